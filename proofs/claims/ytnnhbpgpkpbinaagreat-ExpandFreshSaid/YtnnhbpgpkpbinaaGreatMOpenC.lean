/- Package expand: the opener hook. Package expand: the opener fork. Package expand: the opener obv. -/
import Derived.Test.YtnnhbpgpkpbinaaGreatMExpA
import Derived.Deep.RegionHeld3
set_option linter.unusedVariables false
set_option linter.unusedSimpArgs false
namespace Go.Proofs.YtnnhbpgpkpbinaaGreat
open Go.RowKit

def Held_hook (w : World) (b o cb eb : Nat) (y0 y1 : TV) : Prop := w.cell? ⟨cb, 0, none⟩ = some (.pointer (some ⟨eb, 0, none⟩)) ∧ w.cell? ⟨b, o, none⟩ = some (.int .i64 y0.kind) ∧ w.cell? ⟨b, o + 1, none⟩ = some (.string y0.text) ∧ w.cell? ⟨b, o + 2, none⟩ = some (.int .i64 y0.n) ∧ w.cell? ⟨b, o + 3, none⟩ = some (.slice y0.sa y0.sl y0.sc) ∧ w.cell? ⟨b, o + 4, none⟩ = some (.slice y0.aa y0.al y0.ac) ∧ w.cell? ⟨b, o + 5, none⟩ = some (.slice y0.ka y0.kl y0.kc) ∧ w.cell? ⟨b, o + 6, none⟩ = some (.int .i64 y1.kind) ∧ w.cell? ⟨b, o + 6 + 1, none⟩ = some (.string y1.text) ∧ w.cell? ⟨b, o + 6 + 2, none⟩ = some (.int .i64 y1.n) ∧ w.cell? ⟨b, o + 6 + 3, none⟩ = some (.slice y1.sa y1.sl y1.sc) ∧ w.cell? ⟨b, o + 6 + 4, none⟩ = some (.slice y1.aa y1.al y1.ac) ∧ w.cell? ⟨b, o + 6 + 5, none⟩ = some (.slice y1.ka y1.kl y1.kc)
theorem Held_hook.keep {w w' : World} {b o cb eb B : Nat} {y0 y1 : TV} (h : Held_hook w b o cb eb y0 y1) (hb : Below B w w') (h1 : b < B) (h2 : cb < B) : Held_hook w' b o cb eb y0 y1 := by
  have hk := fun o => hb.cell (p := ⟨b, o, none⟩) h1
  obtain ⟨c, a0, a1, a2, a3, a4, a5, a6, a7, a8, a9, a10, a11⟩ := h
  exact ⟨(hb.cell (p := ⟨cb, 0, none⟩) h2).trans c, (hk _).trans a0, (hk _).trans a1, (hk _).trans a2, (hk _).trans a3, (hk _).trans a4, (hk _).trans a5, (hk _).trans a6, (hk _).trans a7, (hk _).trans a8, (hk _).trans a9, (hk _).trans a10, (hk _).trans a11⟩
set_option maxHeartbeats 4000000 in
theorem hook_calls (u0 u1 : T) (y0 y1 : TV) (b o kl kc B : Nat) (v : Int) (eb mb cb : Nat) (w : World) (hb : b < w.heap.size) (hB : B ≤ w.heap.size) (hkl : 2 ≤ kl) (hE : ExpAt w eb mb cb) (hv : v = 1 ∨ v = 2)
    (h0 : At w b (o) y0) (r0 : Rep w B u0 y0) (h1 : At w b (o + 6) y1) (r1 : Rep w B u1 y1) (n1 : OtherAll u0) (v1 : Verb u0) (n3 : NounAll u1) (v3 : Verb u1) :
    Calls Tryz.prog 59 #[.slice (some ⟨b, o, none⟩) kl kc, .int .i64 v, .pointer (some ⟨cb, 0, none⟩)] w (TwinPost (T.dyT (T.other u0 2) (T.leftT v) (T.noun u1 1)) w) := by
  have HC1 := Lib.hid (fun W (h : Below w.heap.size w W) => other_later n1 v1 r0 hB hE h (.inr rfl : (2 : Int) = 1 ∨ (2 : Int) = 2))
  have HC3 := Lib.hid (fun W (h : Below w.heap.size w W) => noun_later n3 v3 r1 hB hE h (.inl rfl : (1 : Int) = 1 ∨ (1 : Int) = 2))
  have hc := hE.c
  have hcb := hE.lt.2.2
  have hcb' : cb ≤ w.heap.size := by omega
  have hb' : b ≤ w.heap.size := by omega
  obtain ⟨a00, a01, a02, a03, a04, a05⟩ := h0
  obtain ⟨a10, a11, a12, a13, a14, a15⟩ := h1
  clear hE r0 r1 n1 v1 n3 v3
  have hbx : ¬ b = w.heap.size := by omega
  have hcx : ¬ cb = w.heap.size := by omega
  have hbx' : ¬ w.heap.size = b := by omega
  have hcx' : ¬ w.heap.size = cb := by omega
  have R0 := Lib.hid (Box.new w zeroTV 29)
  have hk0 : (0 : Int) < (kl : Int) := by omega
  have hk0' : 0 < kl := by omega
  have hk1 : (1 : Int) < (kl : Int) := by omega
  have hk1' : 1 < kl := by omega
  have S0 := Lib.hid (show Held_hook w b o cb eb y0 y1 from ⟨hc, a00, a01, a02, a03, a04, a05, a10, a11, a12, a13, a14, a15⟩)
  go_enter Tryz.func59, Tryz.ntmps59
  go_wp2_with fail
  go_region_held3 (fun w' => w'.cell? ⟨cb, 0, none⟩ = some (.pointer (some ⟨eb, 0, none⟩)) ∧ w'.cell? ⟨b, o, none⟩ = some (.int .i64 y0.kind) ∧ w'.cell? ⟨b, o + 1, none⟩ = some (.string y0.text) ∧ w'.cell? ⟨b, o + 2, none⟩ = some (.int .i64 y0.n) ∧ w'.cell? ⟨b, o + 3, none⟩ = some (.slice y0.sa y0.sl y0.sc) ∧ w'.cell? ⟨b, o + 4, none⟩ = some (.slice y0.aa y0.al y0.ac) ∧ w'.cell? ⟨b, o + 5, none⟩ = some (.slice y0.ka y0.kl y0.kc) ∧ w'.cell? ⟨b, o + 6, none⟩ = some (.int .i64 y1.kind) ∧ w'.cell? ⟨b, o + 6 + 1, none⟩ = some (.string y1.text) ∧ w'.cell? ⟨b, o + 6 + 2, none⟩ = some (.int .i64 y1.n) ∧ w'.cell? ⟨b, o + 6 + 3, none⟩ = some (.slice y1.sa y1.sl y1.sc) ∧ w'.cell? ⟨b, o + 6 + 4, none⟩ = some (.slice y1.aa y1.al y1.ac) ∧ w'.cell? ⟨b, o + 6 + 5, none⟩ = some (.slice y1.ka y1.kl y1.kc))
    (first | (with_reducible exact S4.out) | (with_reducible exact S3.out) | (with_reducible exact S2.out) | (with_reducible exact S1.out) | go_keep | ((try dsimp only); (repeat' apply And.intro); (all_goals go_keep)))
    (first
      | (go_at_call 50; (with_reducible refine (HC1.out _ (by go_grown)).mono ?_); rintro e w1 ⟨z1, F1, rfl, hO1, hF1, hb1⟩; simp only [TV.val, TV.cells]; have hB1 : Below w.heap.size w w1 := Below.trans (by go_grown) (hb1.mono (by simp)); have S1 := S0.out.keep hB1 hb hcb; unfold Held_hook at S1; have S1 := Lib.hid S1; have R1 : Box w1 w.heap.size zeroTV := (by first | exact R0.out.below hb1 (by simp) | exact R0.out.drew.below hb1 (by simp)); have hz1 := R1.lt; have R1 := Lib.hid R1; have HO1 := Lib.hid hO1; have HFc := Lib.hid (hF1.mono (a' := w.heap.size + 1) (by simp) (Nat.le_refl _)); have HB1 := Lib.hid hb1; clear hO1 hF1 hb1)
      | (go_at_call 56; (with_reducible refine (left_calls _ _).mono ?_); rintro e w2 ⟨rfl, hb2⟩; simp only [leafTV, TV.val, TV.cells]; have hB2 : Below w.heap.size w w2 := hB1.trans (hb2.mono hB1.size); have S2 := S0.out.keep hB2 hb hcb; unfold Held_hook at S2; have S2 := Lib.hid S2; have R2 : Box w2 w.heap.size zeroTV := R1.out.below hb2 hz1; have hz2 := R2.lt; have R2 := Lib.hid R2; have HO1 := Lib.hid (Own.later HO1.out (fun c hc => HFc.out.hi c (by first | (simp [hc]; done) | (cases hc))) hb2); have HO2 : Hid (Own w2 (T.leftT v) (leafTV 2 (leftB v)) []) := Lib.hid (left_own w2 v); have HFc := Lib.hid (show Fresh (w.heap.size + 1) w2.heap.size (F1 ++ []) from by rw [List.append_nil]; exact HFc.out.mono (Nat.le_refl _) hb2.size); have HB2 := Lib.hid hb2; clear hb2)
      | (go_at_call 28; (with_reducible refine (HC3.out _ hB2).mono ?_); rintro e w3 ⟨z3, F3, rfl, hO3, hF3, hb3⟩; simp only [TV.val, TV.cells]; have hB3 : Below w.heap.size w w3 := hB2.trans (hb3.mono hB2.size); have S3 := S0.out.keep hB3 hb hcb; unfold Held_hook at S3; have S3 := Lib.hid S3; have R3 : Box w3 w.heap.size zeroTV := R2.out.below hb3 hz2; have hz3 := R3.lt; have R3 := Lib.hid R3; have HO1 := Lib.hid (Own.later HO1.out (fun c hc => HFc.out.hi c (by first | (simp [hc]; done) | (cases hc))) hb3); have HO2 := Lib.hid (Own.later HO2.out (fun c hc => HFc.out.hi c (by first | (simp [hc]; done) | (cases hc))) hb3); have HO3 := Lib.hid hO3; have HFc := Lib.hid (HFc.out.app hF3 (by omega) hb3.size); have HB3 := Lib.hid hb3; clear hO3 hF3 hb3)
      | (go_at_call 54; (refine (dy_calls z1 (leafTV 2 (leftB v)) z3 _).mono ?_); rintro e w4 ⟨g, rfl, hg, hR, hg2, hb4⟩; simp only [nodeTV, TV.val, TV.cells]; have hB4 : Below w.heap.size w w4 := hB3.trans (hb4.mono hB3.size); have S4 := S0.out.keep hB4 hb hcb; unfold Held_hook at S4; have S4 := Lib.hid S4; have R4 : Box w4 w.heap.size zeroTV := R3.out.below hb4 hz3; obtain ⟨r0, r1, r2, r3, r4, r5, rf⟩ := R4; simp only [zeroTV] at r0 r1 r2 r3 r4 r5; have HB4 := Lib.hid hb4; clear hb4))
  all_goals
    go_wp2_with fail
    obtain ⟨hOx, hFx⟩ := dy_new HO1.out HO2.out HO3.out HFc.out (by omega) HB4.out hg hg2 hR
    refine bodyPost_ret (v := (nodeTV 4 0 g 3).val) (by simp [results, Tryz.results59, nodeTV, TV.val, TV.cells, r0, r1, r2, r3, r4, r5, rf, go_sem]) rfl ?_
    exact new_ends hOx hFx hB4 _ _ _ _ _ _
end Go.Proofs.YtnnhbpgpkpbinaaGreat

namespace Go.Proofs.YtnnhbpgpkpbinaaGreat
open Go.RowKit

def Held_fork (w : World) (b o cb eb : Nat) (y0 y1 y2 : TV) : Prop := w.cell? ⟨cb, 0, none⟩ = some (.pointer (some ⟨eb, 0, none⟩)) ∧ w.cell? ⟨b, o, none⟩ = some (.int .i64 y0.kind) ∧ w.cell? ⟨b, o + 1, none⟩ = some (.string y0.text) ∧ w.cell? ⟨b, o + 2, none⟩ = some (.int .i64 y0.n) ∧ w.cell? ⟨b, o + 3, none⟩ = some (.slice y0.sa y0.sl y0.sc) ∧ w.cell? ⟨b, o + 4, none⟩ = some (.slice y0.aa y0.al y0.ac) ∧ w.cell? ⟨b, o + 5, none⟩ = some (.slice y0.ka y0.kl y0.kc) ∧ w.cell? ⟨b, o + 6, none⟩ = some (.int .i64 y1.kind) ∧ w.cell? ⟨b, o + 6 + 1, none⟩ = some (.string y1.text) ∧ w.cell? ⟨b, o + 6 + 2, none⟩ = some (.int .i64 y1.n) ∧ w.cell? ⟨b, o + 6 + 3, none⟩ = some (.slice y1.sa y1.sl y1.sc) ∧ w.cell? ⟨b, o + 6 + 4, none⟩ = some (.slice y1.aa y1.al y1.ac) ∧ w.cell? ⟨b, o + 6 + 5, none⟩ = some (.slice y1.ka y1.kl y1.kc) ∧ w.cell? ⟨b, o + 12, none⟩ = some (.int .i64 y2.kind) ∧ w.cell? ⟨b, o + 12 + 1, none⟩ = some (.string y2.text) ∧ w.cell? ⟨b, o + 12 + 2, none⟩ = some (.int .i64 y2.n) ∧ w.cell? ⟨b, o + 12 + 3, none⟩ = some (.slice y2.sa y2.sl y2.sc) ∧ w.cell? ⟨b, o + 12 + 4, none⟩ = some (.slice y2.aa y2.al y2.ac) ∧ w.cell? ⟨b, o + 12 + 5, none⟩ = some (.slice y2.ka y2.kl y2.kc)
theorem Held_fork.keep {w w' : World} {b o cb eb B : Nat} {y0 y1 y2 : TV} (h : Held_fork w b o cb eb y0 y1 y2) (hb : Below B w w') (h1 : b < B) (h2 : cb < B) : Held_fork w' b o cb eb y0 y1 y2 := by
  have hk := fun o => hb.cell (p := ⟨b, o, none⟩) h1
  obtain ⟨c, a0, a1, a2, a3, a4, a5, a6, a7, a8, a9, a10, a11, a12, a13, a14, a15, a16, a17⟩ := h
  exact ⟨(hb.cell (p := ⟨cb, 0, none⟩) h2).trans c, (hk _).trans a0, (hk _).trans a1, (hk _).trans a2, (hk _).trans a3, (hk _).trans a4, (hk _).trans a5, (hk _).trans a6, (hk _).trans a7, (hk _).trans a8, (hk _).trans a9, (hk _).trans a10, (hk _).trans a11, (hk _).trans a12, (hk _).trans a13, (hk _).trans a14, (hk _).trans a15, (hk _).trans a16, (hk _).trans a17⟩
set_option maxHeartbeats 4000000 in
theorem fork_calls (u0 u1 u2 : T) (y0 y1 y2 : TV) (b o kl kc B : Nat) (v : Int) (eb mb cb : Nat) (w : World) (hb : b < w.heap.size) (hB : B ≤ w.heap.size) (hkl : 3 ≤ kl) (hE : ExpAt w eb mb cb) (hv : v = 1 ∨ v = 2)
    (h0 : At w b (o) y0) (r0 : Rep w B u0 y0) (h1 : At w b (o + 6) y1) (r1 : Rep w B u1 y1) (h2 : At w b (o + 12) y2) (r2 : Rep w B u2 y2) (n1 : OtherAll u1) (v1 : Verb u1) (n2 : NounAll u0) (v2 : Verb u0) (n3 : NounAll u2) (v3 : Verb u2) :
    Calls Tryz.prog 60 #[.slice (some ⟨b, o, none⟩) kl kc, .int .i64 v, .pointer (some ⟨cb, 0, none⟩)] w (TwinPost (T.dyT (T.other u1 2) (T.noun u0 v) (T.noun u2 v)) w) := by
  have HC1 := Lib.hid (fun W (h : Below w.heap.size w W) => other_later n1 v1 r1 hB hE h (.inr rfl : (2 : Int) = 1 ∨ (2 : Int) = 2))
  have HC2 := Lib.hid (fun W (h : Below w.heap.size w W) => noun_later n2 v2 r0 hB hE h hv)
  have HC3 := Lib.hid (fun W (h : Below w.heap.size w W) => noun_later n3 v3 r2 hB hE h hv)
  have hc := hE.c
  have hcb := hE.lt.2.2
  have hcb' : cb ≤ w.heap.size := by omega
  have hb' : b ≤ w.heap.size := by omega
  obtain ⟨a00, a01, a02, a03, a04, a05⟩ := h0
  obtain ⟨a10, a11, a12, a13, a14, a15⟩ := h1
  obtain ⟨a20, a21, a22, a23, a24, a25⟩ := h2
  clear hE r0 r1 r2 n1 v1 n2 v2 n3 v3
  have hbx : ¬ b = w.heap.size := by omega
  have hcx : ¬ cb = w.heap.size := by omega
  have hbx' : ¬ w.heap.size = b := by omega
  have hcx' : ¬ w.heap.size = cb := by omega
  have R0 := Lib.hid (Box.new w zeroTV 29)
  have hk0 : (0 : Int) < (kl : Int) := by omega
  have hk0' : 0 < kl := by omega
  have hk1 : (1 : Int) < (kl : Int) := by omega
  have hk1' : 1 < kl := by omega
  have hk2 : (2 : Int) < (kl : Int) := by omega
  have hk2' : 2 < kl := by omega
  have S0 := Lib.hid (show Held_fork w b o cb eb y0 y1 y2 from ⟨hc, a00, a01, a02, a03, a04, a05, a10, a11, a12, a13, a14, a15, a20, a21, a22, a23, a24, a25⟩)
  go_enter Tryz.func60, Tryz.ntmps60
  go_wp2_with fail
  go_region_held3 (fun w' => w'.cell? ⟨cb, 0, none⟩ = some (.pointer (some ⟨eb, 0, none⟩)) ∧ w'.cell? ⟨b, o, none⟩ = some (.int .i64 y0.kind) ∧ w'.cell? ⟨b, o + 1, none⟩ = some (.string y0.text) ∧ w'.cell? ⟨b, o + 2, none⟩ = some (.int .i64 y0.n) ∧ w'.cell? ⟨b, o + 3, none⟩ = some (.slice y0.sa y0.sl y0.sc) ∧ w'.cell? ⟨b, o + 4, none⟩ = some (.slice y0.aa y0.al y0.ac) ∧ w'.cell? ⟨b, o + 5, none⟩ = some (.slice y0.ka y0.kl y0.kc) ∧ w'.cell? ⟨b, o + 6, none⟩ = some (.int .i64 y1.kind) ∧ w'.cell? ⟨b, o + 6 + 1, none⟩ = some (.string y1.text) ∧ w'.cell? ⟨b, o + 6 + 2, none⟩ = some (.int .i64 y1.n) ∧ w'.cell? ⟨b, o + 6 + 3, none⟩ = some (.slice y1.sa y1.sl y1.sc) ∧ w'.cell? ⟨b, o + 6 + 4, none⟩ = some (.slice y1.aa y1.al y1.ac) ∧ w'.cell? ⟨b, o + 6 + 5, none⟩ = some (.slice y1.ka y1.kl y1.kc) ∧ w'.cell? ⟨b, o + 12, none⟩ = some (.int .i64 y2.kind) ∧ w'.cell? ⟨b, o + 12 + 1, none⟩ = some (.string y2.text) ∧ w'.cell? ⟨b, o + 12 + 2, none⟩ = some (.int .i64 y2.n) ∧ w'.cell? ⟨b, o + 12 + 3, none⟩ = some (.slice y2.sa y2.sl y2.sc) ∧ w'.cell? ⟨b, o + 12 + 4, none⟩ = some (.slice y2.aa y2.al y2.ac) ∧ w'.cell? ⟨b, o + 12 + 5, none⟩ = some (.slice y2.ka y2.kl y2.kc))
    (first | (with_reducible exact S4.out) | (with_reducible exact S3.out) | (with_reducible exact S2.out) | (with_reducible exact S1.out) | go_keep | ((try dsimp only); (repeat' apply And.intro); (all_goals go_keep)))
    (first
      | (go_at_call 50; (with_reducible refine (HC1.out _ (by go_grown)).mono ?_); rintro e w1 ⟨z1, F1, rfl, hO1, hF1, hb1⟩; simp only [TV.val, TV.cells]; have hB1 : Below w.heap.size w w1 := Below.trans (by go_grown) (hb1.mono (by simp)); have S1 := S0.out.keep hB1 hb hcb; unfold Held_fork at S1; have S1 := Lib.hid S1; have R1 : Box w1 w.heap.size zeroTV := (by first | exact R0.out.below hb1 (by simp) | exact R0.out.drew.below hb1 (by simp)); have hz1 := R1.lt; have R1 := Lib.hid R1; have HO1 := Lib.hid hO1; have HFc := Lib.hid (hF1.mono (a' := w.heap.size + 1) (by simp) (Nat.le_refl _)); have HB1 := Lib.hid hb1; clear hO1 hF1 hb1)
      | (go_at_call 28; (with_reducible refine (HC2.out _ hB1).mono ?_); rintro e w2 ⟨z2, F2, rfl, hO2, hF2, hb2⟩; simp only [TV.val, TV.cells]; have hB2 : Below w.heap.size w w2 := hB1.trans (hb2.mono hB1.size); have S2 := S0.out.keep hB2 hb hcb; unfold Held_fork at S2; have S2 := Lib.hid S2; have R2 : Box w2 w.heap.size zeroTV := R1.out.below hb2 hz1; have hz2 := R2.lt; have R2 := Lib.hid R2; have HO1 := Lib.hid (Own.later HO1.out (fun c hc => HFc.out.hi c (by first | (simp [hc]; done) | (cases hc))) hb2); have HO2 := Lib.hid hO2; have HFc := Lib.hid (HFc.out.app hF2 (by omega) hb2.size); have HB2 := Lib.hid hb2; clear hO2 hF2 hb2)
      | (go_at_call 28; (with_reducible refine (HC3.out _ hB2).mono ?_); rintro e w3 ⟨z3, F3, rfl, hO3, hF3, hb3⟩; simp only [TV.val, TV.cells]; have hB3 : Below w.heap.size w w3 := hB2.trans (hb3.mono hB2.size); have S3 := S0.out.keep hB3 hb hcb; unfold Held_fork at S3; have S3 := Lib.hid S3; have R3 : Box w3 w.heap.size zeroTV := R2.out.below hb3 hz2; have hz3 := R3.lt; have R3 := Lib.hid R3; have HO1 := Lib.hid (Own.later HO1.out (fun c hc => HFc.out.hi c (by first | (simp [hc]; done) | (cases hc))) hb3); have HO2 := Lib.hid (Own.later HO2.out (fun c hc => HFc.out.hi c (by first | (simp [hc]; done) | (cases hc))) hb3); have HO3 := Lib.hid hO3; have HFc := Lib.hid (HFc.out.app hF3 (by omega) hb3.size); have HB3 := Lib.hid hb3; clear hO3 hF3 hb3)
      | (go_at_call 54; (refine (dy_calls z1 z2 z3 _).mono ?_); rintro e w4 ⟨g, rfl, hg, hR, hg2, hb4⟩; simp only [nodeTV, TV.val, TV.cells]; have hB4 : Below w.heap.size w w4 := hB3.trans (hb4.mono hB3.size); have S4 := S0.out.keep hB4 hb hcb; unfold Held_fork at S4; have S4 := Lib.hid S4; have R4 : Box w4 w.heap.size zeroTV := R3.out.below hb4 hz3; obtain ⟨r0, r1, r2, r3, r4, r5, rf⟩ := R4; simp only [zeroTV] at r0 r1 r2 r3 r4 r5; have HB4 := Lib.hid hb4; clear hb4))
  all_goals
    go_wp2_with fail
    obtain ⟨hOx, hFx⟩ := dy_new HO1.out HO2.out HO3.out HFc.out (by omega) HB4.out hg hg2 hR
    refine bodyPost_ret (v := (nodeTV 4 0 g 3).val) (by simp [results, Tryz.results60, nodeTV, TV.val, TV.cells, r0, r1, r2, r3, r4, r5, rf, go_sem]) rfl ?_
    exact new_ends hOx hFx hB4 _ _ _ _ _ _
end Go.Proofs.YtnnhbpgpkpbinaaGreat

namespace Go.Proofs.YtnnhbpgpkpbinaaGreat
open Go.RowKit

def Held_obv (w : World) (b o cb eb : Nat) (y0 : TV) : Prop := w.cell? ⟨cb, 0, none⟩ = some (.pointer (some ⟨eb, 0, none⟩)) ∧ w.cell? ⟨b, o, none⟩ = some (.int .i64 y0.kind) ∧ w.cell? ⟨b, o + 1, none⟩ = some (.string y0.text) ∧ w.cell? ⟨b, o + 2, none⟩ = some (.int .i64 y0.n) ∧ w.cell? ⟨b, o + 3, none⟩ = some (.slice y0.sa y0.sl y0.sc) ∧ w.cell? ⟨b, o + 4, none⟩ = some (.slice y0.aa y0.al y0.ac) ∧ w.cell? ⟨b, o + 5, none⟩ = some (.slice y0.ka y0.kl y0.kc)
theorem Held_obv.keep {w w' : World} {b o cb eb B : Nat} {y0 : TV} (h : Held_obv w b o cb eb y0) (hb : Below B w w') (h1 : b < B) (h2 : cb < B) : Held_obv w' b o cb eb y0 := by
  have hk := fun o => hb.cell (p := ⟨b, o, none⟩) h1
  obtain ⟨c, a0, a1, a2, a3, a4, a5⟩ := h
  exact ⟨(hb.cell (p := ⟨cb, 0, none⟩) h2).trans c, (hk _).trans a0, (hk _).trans a1, (hk _).trans a2, (hk _).trans a3, (hk _).trans a4, (hk _).trans a5⟩
set_option maxHeartbeats 4000000 in
theorem obv_calls (u0 : T) (y0 : TV) (b o kl kc B : Nat) (v : Int) (eb mb cb : Nat) (w : World) (hb : b < w.heap.size) (hB : B ≤ w.heap.size) (hkl : 1 ≤ kl) (hE : ExpAt w eb mb cb) (hv : v = 1 ∨ v = 2)
    (h0 : At w b (o) y0) (r0 : Rep w B u0 y0) (n1 : NounAll u0) (v1 : Verb u0) :
    Calls Tryz.prog 62 #[.slice (some ⟨b, o, none⟩) kl kc, .int .i64 v, .pointer (some ⟨cb, 0, none⟩)] w (TwinPost ((T.noun u0 v)) w) := by
  have HC1 := Lib.hid (fun W (h : Below w.heap.size w W) => noun_later n1 v1 r0 hB hE h hv)
  have hc := hE.c
  have hcb := hE.lt.2.2
  have hcb' : cb ≤ w.heap.size := by omega
  have hb' : b ≤ w.heap.size := by omega
  obtain ⟨a00, a01, a02, a03, a04, a05⟩ := h0
  clear hE r0 n1 v1
  have hbx : ¬ b = w.heap.size := by omega
  have hcx : ¬ cb = w.heap.size := by omega
  have hbx' : ¬ w.heap.size = b := by omega
  have hcx' : ¬ w.heap.size = cb := by omega
  have R0 := Lib.hid (Box.new w zeroTV 29)
  have hk0 : (0 : Int) < (kl : Int) := by omega
  have hk0' : 0 < kl := by omega
  have S0 := Lib.hid (show Held_obv w b o cb eb y0 from ⟨hc, a00, a01, a02, a03, a04, a05⟩)
  go_enter Tryz.func62, Tryz.ntmps62
  go_wp2_with fail
  go_region_held3 (fun w' => w'.cell? ⟨cb, 0, none⟩ = some (.pointer (some ⟨eb, 0, none⟩)) ∧ w'.cell? ⟨b, o, none⟩ = some (.int .i64 y0.kind) ∧ w'.cell? ⟨b, o + 1, none⟩ = some (.string y0.text) ∧ w'.cell? ⟨b, o + 2, none⟩ = some (.int .i64 y0.n) ∧ w'.cell? ⟨b, o + 3, none⟩ = some (.slice y0.sa y0.sl y0.sc) ∧ w'.cell? ⟨b, o + 4, none⟩ = some (.slice y0.aa y0.al y0.ac) ∧ w'.cell? ⟨b, o + 5, none⟩ = some (.slice y0.ka y0.kl y0.kc))
    (first | (with_reducible exact S1.out) | go_keep | ((try dsimp only); (repeat' apply And.intro); (all_goals go_keep)))
    (first
      | (go_at_call 28; (with_reducible refine (HC1.out _ (by go_grown)).mono ?_); rintro e w1 ⟨z1, F1, rfl, hO1, hF1, hb1⟩; simp only [TV.val, TV.cells]; have hB1 : Below w.heap.size w w1 := Below.trans (by go_grown) (hb1.mono (by simp)); have S1 := S0.out.keep hB1 hb hcb; unfold Held_obv at S1; have S1 := Lib.hid S1; have R1 : Box w1 w.heap.size zeroTV := (by first | exact R0.out.below hb1 (by simp) | exact R0.out.drew.below hb1 (by simp)); have hz1 := R1.lt; have R1 := Lib.hid R1; have HO1 := Lib.hid hO1; have HFc := Lib.hid (hF1.mono (a' := w.heap.size + 1) (by simp) (Nat.le_refl _)); have HB1 := Lib.hid hb1; clear hO1 hF1 hb1; obtain ⟨r0, r1, r2, r3, r4, r5, rf⟩ := R1.out; simp only [zeroTV] at r0 r1 r2 r3 r4 r5))
  all_goals
    go_wp2_with fail
    refine bodyPost_ret (v := z1.val) (by simp [results, Tryz.results62, TV.val, TV.cells, r0, r1, r2, r3, r4, r5, rf, go_sem]) rfl ?_
    exact new_ends HO1.out HFc.out hB1 _ _ _ _ _ _
end Go.Proofs.YtnnhbpgpkpbinaaGreat
