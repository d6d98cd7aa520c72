/- Package expand: the opener obv. -/
import Derived.Test.YtnnhbpgpkpbinaaGreatExp5
import Derived.Deep.RegionHeld3
namespace Go.Proofs.YtnnhbpgpkpbinaaGreat
open Go.RowKit

def Held_obv (w : World) (b o cb eb : Nat) (y0 : TV) : Prop := w.cell? ⟨cb, 0, none⟩ = some (.pointer (some ⟨eb, 0, none⟩)) ∧ w.cell? ⟨b, o, none⟩ = some (.int .i64 y0.kind) ∧ w.cell? ⟨b, o + 1, none⟩ = some (.string y0.text) ∧ w.cell? ⟨b, o + 2, none⟩ = some (.int .i64 y0.n) ∧ w.cell? ⟨b, o + 3, none⟩ = some (.slice y0.sa y0.sl y0.sc) ∧ w.cell? ⟨b, o + 4, none⟩ = some (.slice y0.aa y0.al y0.ac) ∧ w.cell? ⟨b, o + 5, none⟩ = some (.slice y0.ka y0.kl y0.kc)
theorem Held_obv.keep {w w' : World} {b o cb eb B : Nat} {y0 : TV} (h : Held_obv w b o cb eb y0) (hb : Below B w w') (h1 : b < B) (h2 : cb < B) : Held_obv w' b o cb eb y0 := by
  have hk := fun o => hb.cell (p := ⟨b, o, none⟩) h1
  obtain ⟨c, a0, a1, a2, a3, a4, a5⟩ := h
  exact ⟨(hb.cell (p := ⟨cb, 0, none⟩) h2).trans c, (hk _).trans a0, (hk _).trans a1, (hk _).trans a2, (hk _).trans a3, (hk _).trans a4, (hk _).trans a5⟩
set_option maxHeartbeats 4000000 in
theorem obv_calls (u0 : T) (y0 : TV) (b o kl kc B : Nat) (v : Int) (eb mb cb : Nat) (w : World) (hb : b < w.heap.size) (hB : B ≤ w.heap.size) (hkl : 1 ≤ kl) (hE : ExpAt w eb mb cb) (hv : v = 1 ∨ v = 2)
    (h0 : At w b (o) y0) (r0 : Rep w B u0 y0) (n1 : NounAll u0) (v1 : Verb u0) :
    Calls Tryz.prog 62 #[.slice (some ⟨b, o, none⟩) kl kc, .int .i64 v, .pointer (some ⟨cb, 0, none⟩)] w (TwinPost ((T.noun u0 v)) w) := by
  have HC1 := Lib.hid (fun W (h : Below w.heap.size w W) => noun_later n1 v1 r0 hB hE h hv)
  have hc := hE.c
  have hcb := hE.lt.2.2
  have hcb' : cb ≤ w.heap.size := by omega
  have hb' : b ≤ w.heap.size := by omega
  obtain ⟨a00, a01, a02, a03, a04, a05⟩ := h0
  clear hE r0 n1 v1
  have hbx : ¬ b = w.heap.size := by omega
  have hcx : ¬ cb = w.heap.size := by omega
  have hbx' : ¬ w.heap.size = b := by omega
  have hcx' : ¬ w.heap.size = cb := by omega
  have R0 := Lib.hid (Box.new w zeroTV 29)
  have hk0 : (0 : Int) < (kl : Int) := by omega
  have hk0' : 0 < kl := by omega
  have S0 := Lib.hid (show Held_obv w b o cb eb y0 from ⟨hc, a00, a01, a02, a03, a04, a05⟩)
  go_enter Tryz.func62, Tryz.ntmps62
  go_wp2_with fail
  go_region_held3 (fun w' => w'.cell? ⟨cb, 0, none⟩ = some (.pointer (some ⟨eb, 0, none⟩)) ∧ w'.cell? ⟨b, o, none⟩ = some (.int .i64 y0.kind) ∧ w'.cell? ⟨b, o + 1, none⟩ = some (.string y0.text) ∧ w'.cell? ⟨b, o + 2, none⟩ = some (.int .i64 y0.n) ∧ w'.cell? ⟨b, o + 3, none⟩ = some (.slice y0.sa y0.sl y0.sc) ∧ w'.cell? ⟨b, o + 4, none⟩ = some (.slice y0.aa y0.al y0.ac) ∧ w'.cell? ⟨b, o + 5, none⟩ = some (.slice y0.ka y0.kl y0.kc))
    (first | (with_reducible exact S1.out) | go_keep | ((try dsimp only); (repeat' apply And.intro); (all_goals go_keep)))
    (first
      | (go_at_call 28; (with_reducible refine (HC1.out _ (by go_grown)).mono ?_); rintro e w1 ⟨z1, F1, rfl, hO1, hF1, hb1⟩; simp only [TV.val, TV.cells]; have hB1 : Below w.heap.size w w1 := Below.trans (by go_grown) (hb1.mono (by simp)); have S1 := S0.out.keep hB1 hb hcb; unfold Held_obv at S1; have S1 := Lib.hid S1; have R1 : Box w1 w.heap.size zeroTV := (by first | exact R0.out.below hb1 (by simp) | exact R0.out.drew.below hb1 (by simp)); have hz1 := R1.lt; have R1 := Lib.hid R1; have HO1 := Lib.hid hO1; have HFc := Lib.hid (hF1.mono (a' := w.heap.size + 1) (by simp) (Nat.le_refl _)); have HB1 := Lib.hid hb1; clear hO1 hF1 hb1; obtain ⟨r0, r1, r2, r3, r4, r5, rf⟩ := R1.out; simp only [zeroTV] at r0 r1 r2 r3 r4 r5))
  all_goals
    go_wp2_with fail
    refine bodyPost_ret (v := z1.val) (by simp [results, Tryz.results62, TV.val, TV.cells, r0, r1, r2, r3, r4, r5, rf, go_sem]) rfl ?_
    exact new_ends HO1.out HFc.out hB1 _ _ _ _ _ _
end Go.Proofs.YtnnhbpgpkpbinaaGreat
