/- Package expand: the opener through. Package expand: the openers of a constant, of both. Package expand: the opener swap. -/
import Derived.Test.YtnnhbpgpkpbinaaGreatMExpA
import Derived.Deep.RegionHeld3
import Derived.Test.YtnnhbpgpkpbinaaGreatMTermD
set_option linter.unusedVariables false
set_option linter.unusedSimpArgs false
namespace Go.Proofs.YtnnhbpgpkpbinaaGreat
open Go.RowKit

def Held_through (w : World) (b o cb eb : Nat) (y0 y1 : TV) : Prop := w.cell? ⟨cb, 0, none⟩ = some (.pointer (some ⟨eb, 0, none⟩)) ∧ w.cell? ⟨b, o, none⟩ = some (.int .i64 y0.kind) ∧ w.cell? ⟨b, o + 1, none⟩ = some (.string y0.text) ∧ w.cell? ⟨b, o + 2, none⟩ = some (.int .i64 y0.n) ∧ w.cell? ⟨b, o + 3, none⟩ = some (.slice y0.sa y0.sl y0.sc) ∧ w.cell? ⟨b, o + 4, none⟩ = some (.slice y0.aa y0.al y0.ac) ∧ w.cell? ⟨b, o + 5, none⟩ = some (.slice y0.ka y0.kl y0.kc) ∧ w.cell? ⟨b, o + 6, none⟩ = some (.int .i64 y1.kind) ∧ w.cell? ⟨b, o + 6 + 1, none⟩ = some (.string y1.text) ∧ w.cell? ⟨b, o + 6 + 2, none⟩ = some (.int .i64 y1.n) ∧ w.cell? ⟨b, o + 6 + 3, none⟩ = some (.slice y1.sa y1.sl y1.sc) ∧ w.cell? ⟨b, o + 6 + 4, none⟩ = some (.slice y1.aa y1.al y1.ac) ∧ w.cell? ⟨b, o + 6 + 5, none⟩ = some (.slice y1.ka y1.kl y1.kc)
theorem Held_through.keep {w w' : World} {b o cb eb B : Nat} {y0 y1 : TV} (h : Held_through w b o cb eb y0 y1) (hb : Below B w w') (h1 : b < B) (h2 : cb < B) : Held_through w' b o cb eb y0 y1 := by
  have hk := fun o => hb.cell (p := ⟨b, o, none⟩) h1
  obtain ⟨c, a0, a1, a2, a3, a4, a5, a6, a7, a8, a9, a10, a11⟩ := h
  exact ⟨(hb.cell (p := ⟨cb, 0, none⟩) h2).trans c, (hk _).trans a0, (hk _).trans a1, (hk _).trans a2, (hk _).trans a3, (hk _).trans a4, (hk _).trans a5, (hk _).trans a6, (hk _).trans a7, (hk _).trans a8, (hk _).trans a9, (hk _).trans a10, (hk _).trans a11⟩
set_option maxHeartbeats 4000000 in
theorem through_calls (u0 u1 : T) (y0 y1 : TV) (b o kl kc B : Nat) (v : Int) (eb mb cb : Nat) (w : World) (hb : b < w.heap.size) (hB : B ≤ w.heap.size) (hkl : 2 ≤ kl) (hE : ExpAt w eb mb cb) (hv : v = 1 ∨ v = 2)
    (h0 : At w b (o) y0) (r0 : Rep w B u0 y0) (h1 : At w b (o + 6) y1) (r1 : Rep w B u1 y1) (n1 : OtherAll u0) (v1 : Verb u0) (n2 : NounAll u1) (v2 : Verb u1) :
    Calls Tryz.prog 48 #[.slice (some ⟨b, o, none⟩) kl kc, .int .i64 v, .pointer (some ⟨cb, 0, none⟩)] w (TwinPost (T.monT (T.other u0 1) (T.noun u1 v)) w) := by
  have HC1 := Lib.hid (fun W (h : Below w.heap.size w W) => other_later n1 v1 r0 hB hE h (.inl rfl : (1 : Int) = 1 ∨ (1 : Int) = 2))
  have HC2 := Lib.hid (fun W (h : Below w.heap.size w W) => noun_later n2 v2 r1 hB hE h hv)
  have hc := hE.c
  have hcb := hE.lt.2.2
  have hcb' : cb ≤ w.heap.size := by omega
  have hb' : b ≤ w.heap.size := by omega
  obtain ⟨a00, a01, a02, a03, a04, a05⟩ := h0
  obtain ⟨a10, a11, a12, a13, a14, a15⟩ := h1
  clear hE r0 r1 n1 v1 n2 v2
  have hbx : ¬ b = w.heap.size := by omega
  have hcx : ¬ cb = w.heap.size := by omega
  have hbx' : ¬ w.heap.size = b := by omega
  have hcx' : ¬ w.heap.size = cb := by omega
  have R0 := Lib.hid (Box.new w zeroTV 29)
  have hk0 : (0 : Int) < (kl : Int) := by omega
  have hk0' : 0 < kl := by omega
  have hk1 : (1 : Int) < (kl : Int) := by omega
  have hk1' : 1 < kl := by omega
  have S0 := Lib.hid (show Held_through w b o cb eb y0 y1 from ⟨hc, a00, a01, a02, a03, a04, a05, a10, a11, a12, a13, a14, a15⟩)
  go_enter Tryz.func48, Tryz.ntmps48
  go_wp2_with fail
  go_region_held3 (fun w' => w'.cell? ⟨cb, 0, none⟩ = some (.pointer (some ⟨eb, 0, none⟩)) ∧ w'.cell? ⟨b, o, none⟩ = some (.int .i64 y0.kind) ∧ w'.cell? ⟨b, o + 1, none⟩ = some (.string y0.text) ∧ w'.cell? ⟨b, o + 2, none⟩ = some (.int .i64 y0.n) ∧ w'.cell? ⟨b, o + 3, none⟩ = some (.slice y0.sa y0.sl y0.sc) ∧ w'.cell? ⟨b, o + 4, none⟩ = some (.slice y0.aa y0.al y0.ac) ∧ w'.cell? ⟨b, o + 5, none⟩ = some (.slice y0.ka y0.kl y0.kc) ∧ w'.cell? ⟨b, o + 6, none⟩ = some (.int .i64 y1.kind) ∧ w'.cell? ⟨b, o + 6 + 1, none⟩ = some (.string y1.text) ∧ w'.cell? ⟨b, o + 6 + 2, none⟩ = some (.int .i64 y1.n) ∧ w'.cell? ⟨b, o + 6 + 3, none⟩ = some (.slice y1.sa y1.sl y1.sc) ∧ w'.cell? ⟨b, o + 6 + 4, none⟩ = some (.slice y1.aa y1.al y1.ac) ∧ w'.cell? ⟨b, o + 6 + 5, none⟩ = some (.slice y1.ka y1.kl y1.kc))
    (first | (with_reducible exact S3.out) | (with_reducible exact S2.out) | (with_reducible exact S1.out) | go_keep | ((try dsimp only); (repeat' apply And.intro); (all_goals go_keep)))
    (first
      | (go_at_call 50; (with_reducible refine (HC1.out _ (by go_grown)).mono ?_); rintro e w1 ⟨z1, F1, rfl, hO1, hF1, hb1⟩; simp only [TV.val, TV.cells]; have hB1 : Below w.heap.size w w1 := Below.trans (by go_grown) (hb1.mono (by simp)); have S1 := S0.out.keep hB1 hb hcb; unfold Held_through at S1; have S1 := Lib.hid S1; have R1 : Box w1 w.heap.size zeroTV := (by first | exact R0.out.below hb1 (by simp) | exact R0.out.drew.below hb1 (by simp)); have hz1 := R1.lt; have R1 := Lib.hid R1; have HO1 := Lib.hid hO1; have HFc := Lib.hid (hF1.mono (a' := w.heap.size + 1) (by simp) (Nat.le_refl _)); have HB1 := Lib.hid hb1; clear hO1 hF1 hb1)
      | (go_at_call 28; (with_reducible refine (HC2.out _ hB1).mono ?_); rintro e w2 ⟨z2, F2, rfl, hO2, hF2, hb2⟩; simp only [TV.val, TV.cells]; have hB2 : Below w.heap.size w w2 := hB1.trans (hb2.mono hB1.size); have S2 := S0.out.keep hB2 hb hcb; unfold Held_through at S2; have S2 := Lib.hid S2; have R2 : Box w2 w.heap.size zeroTV := R1.out.below hb2 hz1; have hz2 := R2.lt; have R2 := Lib.hid R2; have HO1 := Lib.hid (Own.later HO1.out (fun c hc => HFc.out.hi c (by first | (simp [hc]; done) | (cases hc))) hb2); have HO2 := Lib.hid hO2; have HFc := Lib.hid (HFc.out.app hF2 (by omega) hb2.size); have HB2 := Lib.hid hb2; clear hO2 hF2 hb2)
      | (go_at_call 49; (refine (mon_calls z1 z2 _).mono ?_); rintro e w3 ⟨g, rfl, hg, hR, hg2, hb3⟩; simp only [nodeTV, TV.val, TV.cells]; have hB3 : Below w.heap.size w w3 := hB2.trans (hb3.mono hB2.size); have S3 := S0.out.keep hB3 hb hcb; unfold Held_through at S3; have S3 := Lib.hid S3; have R3 : Box w3 w.heap.size zeroTV := R2.out.below hb3 hz2; obtain ⟨r0, r1, r2, r3, r4, r5, rf⟩ := R3; simp only [zeroTV] at r0 r1 r2 r3 r4 r5; have HB3 := Lib.hid hb3; clear hb3))
  all_goals
    go_wp2_with fail
    obtain ⟨hOx, hFx⟩ := mon_new HO1.out HO2.out HFc.out (by omega) HB3.out hg hg2 hR
    refine bodyPost_ret (v := (nodeTV 3 0 g 2).val) (by simp [results, Tryz.results48, nodeTV, TV.val, TV.cells, r0, r1, r2, r3, r4, r5, rf, go_sem]) rfl ?_
    exact new_ends hOx hFx hB3 _ _ _ _ _ _
end Go.Proofs.YtnnhbpgpkpbinaaGreat

namespace Go.Proofs.YtnnhbpgpkpbinaaGreat
open Go.RowKit

set_option maxRecDepth 100000 in
set_option maxHeartbeats 1000000 in
theorem const_calls (u0 : T) (y0 : TV) (b o kl kc B : Nat) (v : Int) (w : World) (hb : b < w.heap.size) (hB : B ≤ w.heap.size) (hkl : 1 ≤ kl) (h0 : At w b o y0) (r0 : Rep w B u0 y0) (f : T.fits u0) :
    Calls Tryz.prog 51 #[.slice (some ⟨b, o, none⟩) kl kc, .int .i64 v] w (TwinPost u0 w) := by
  have HC := Lib.hid (fun W (h : Below w.heap.size w W) => twin_later f r0 hB h)
  have R0 := Lib.hid (Box.new w zeroTV 29)
  obtain ⟨a0, a1, a2, a3, a4, a5⟩ := h0
  have hk0' : 0 < kl := by omega
  have hw0 : IntKind.i64.wrap 0 = 0 := by decide
  have hk0 : (0 : Int) < (kl : Int) := by omega
  clear r0 f
  go_enter Tryz.func51, Tryz.ntmps51
  go_wp2_with (go_at_call 52; (with_reducible refine (HC.out _ (by go_grown)).mono ?_); rintro e w1 ⟨z, F, rfl, hO, hF, hb1⟩; simp only [TV.val, TV.cells]; have R1 : Box w1 w.heap.size zeroTV := R0.out.below hb1 (by simp); obtain ⟨r0, r1, r2, r3, r4, r5, rf⟩ := R1; simp only [zeroTV] at r0 r1 r2 r3 r4 r5; have HB1 : Hid (Below w.heap.size w w1) := Lib.hid (Below.trans (by go_grown) (hb1.mono (by simp))); have HO := Lib.hid hO; have HF := Lib.hid (hF.mono (a' := w.heap.size + 1) (by simp) (Nat.le_refl _)); clear hb1 hO hF)
  refine bodyPost_ret (v := z.val) (by simp [results, Tryz.results51, TV.val, TV.cells, r0, r1, r2, r3, r4, r5, rf, go_sem]) rfl ?_
  exact new_ends HO.out HF.out HB1.out _ _ _ _ _ _

set_option maxRecDepth 100000 in
set_option maxHeartbeats 1000000 in
theorem bothV1 (u0 : T) (y0 : TV) (b o kl kc B : Nat) (eb mb cb : Nat) (w : World) (hb : b < w.heap.size) (hB : B ≤ w.heap.size) (hkl : 1 ≤ kl) (hE : ExpAt w eb mb cb) (h0 : At w b (o) y0) (r0 : Rep w B u0 y0) (n1 : NounAll u0) (v1 : Verb u0) :
    Calls Tryz.prog 63 #[.slice (some ⟨b, o, none⟩) kl kc, .int .i64 1, .pointer (some ⟨cb, 0, none⟩)] w (TwinPost (T.noun u0 1) w) := by
  have HC := Lib.hid (fun W (h : Below w.heap.size w W) => noun_later (v := 1) n1 v1 r0 hB hE h (by decide))
  have R0 := Lib.hid (Box.new w zeroTV 29)
  have hc := hE.c
  have hcb := hE.lt.2.2
  obtain ⟨a0, a1, a2, a3, a4, a5⟩ := h0
  have hk0' : 0 < kl := by omega
  have hw0 : IntKind.i64.wrap 0 = 0 := by decide
  have hk0 : (0 : Int) < (kl : Int) := by omega
  clear r0 n1 v1 hE
  go_enter Tryz.func63, Tryz.ntmps63
  go_wp2_with fail
  refine still_tail 7 (by kernel_rfl) (by kernel_rfl) ?_
  simp only [List.take_succ_cons, List.take_zero, List.drop_succ_cons, List.drop_zero]
  repeat still_step
  refine wpStill_nil ?_
  go_wp2_with (go_at_call 28; (with_reducible refine (HC.out _ (by go_grown)).mono ?_); rintro e w1 ⟨z, F, rfl, hO, hF, hb1⟩; simp only [TV.val, TV.cells]; have R1 : Box w1 w.heap.size zeroTV := R0.out.drew.below hb1 (by simp); obtain ⟨r0, r1, r2, r3, r4, r5, rf⟩ := R1; simp only [zeroTV] at r0 r1 r2 r3 r4 r5; have HB1 : Hid (Below w.heap.size w w1) := Lib.hid (Below.trans (by go_grown) (hb1.mono (by simp))); have HO := Lib.hid hO; have HF := Lib.hid (hF.mono (a' := w.heap.size + 1) (by simp) (Nat.le_refl _)); clear hb1 hO hF)
  refine bodyPost_ret (v := z.val) (by simp [results, Tryz.results63, TV.val, TV.cells, r0, r1, r2, r3, r4, r5, rf, go_sem]) rfl ?_
  exact new_ends HO.out HF.out HB1.out _ _ _ _ _ _

set_option maxRecDepth 100000 in
set_option maxHeartbeats 1000000 in
theorem bothV2 (u0 : T) (y0 : TV) (b o kl kc B : Nat) (eb mb cb : Nat) (w : World) (hb : b < w.heap.size) (hB : B ≤ w.heap.size) (hkl : 2 ≤ kl) (hE : ExpAt w eb mb cb) (h0 : At w b (o + 6) y0) (r0 : Rep w B u0 y0) (n1 : NounAll u0) (v1 : Verb u0) :
    Calls Tryz.prog 63 #[.slice (some ⟨b, o, none⟩) kl kc, .int .i64 2, .pointer (some ⟨cb, 0, none⟩)] w (TwinPost (T.noun u0 2) w) := by
  have HC := Lib.hid (fun W (h : Below w.heap.size w W) => noun_later (v := 2) n1 v1 r0 hB hE h (by decide))
  have R0 := Lib.hid (Box.new w zeroTV 29)
  have hc := hE.c
  have hcb := hE.lt.2.2
  obtain ⟨a0, a1, a2, a3, a4, a5⟩ := h0
  have hk0' : 1 < kl := by omega
  have hw0 : IntKind.i64.wrap 1 = 1 := by decide
  have hk0 : (1 : Int) < (kl : Int) := by omega
  clear r0 n1 v1 hE
  go_enter Tryz.func63, Tryz.ntmps63
  go_wp2_with fail
  refine still_tail 7 (by kernel_rfl) (by kernel_rfl) ?_
  simp only [List.take_succ_cons, List.take_zero, List.drop_succ_cons, List.drop_zero]
  repeat still_step
  refine wpStill_nil ?_
  go_wp2_with (go_at_call 28; (with_reducible refine (HC.out _ (by go_grown)).mono ?_); rintro e w1 ⟨z, F, rfl, hO, hF, hb1⟩; simp only [TV.val, TV.cells]; have R1 : Box w1 w.heap.size zeroTV := R0.out.drew.below hb1 (by simp); obtain ⟨r0, r1, r2, r3, r4, r5, rf⟩ := R1; simp only [zeroTV] at r0 r1 r2 r3 r4 r5; have HB1 : Hid (Below w.heap.size w w1) := Lib.hid (Below.trans (by go_grown) (hb1.mono (by simp))); have HO := Lib.hid hO; have HF := Lib.hid (hF.mono (a' := w.heap.size + 1) (by simp) (Nat.le_refl _)); clear hb1 hO hF)
  refine bodyPost_ret (v := z.val) (by simp [results, Tryz.results63, TV.val, TV.cells, r0, r1, r2, r3, r4, r5, rf, go_sem]) rfl ?_
  exact new_ends HO.out HF.out HB1.out _ _ _ _ _ _
end Go.Proofs.YtnnhbpgpkpbinaaGreat

namespace Go.Proofs.YtnnhbpgpkpbinaaGreat
open Go.RowKit

def Held_swap (w : World) (b o cb eb : Nat) (y0 : TV) : Prop := w.cell? ⟨cb, 0, none⟩ = some (.pointer (some ⟨eb, 0, none⟩)) ∧ w.cell? ⟨b, o, none⟩ = some (.int .i64 y0.kind) ∧ w.cell? ⟨b, o + 1, none⟩ = some (.string y0.text) ∧ w.cell? ⟨b, o + 2, none⟩ = some (.int .i64 y0.n) ∧ w.cell? ⟨b, o + 3, none⟩ = some (.slice y0.sa y0.sl y0.sc) ∧ w.cell? ⟨b, o + 4, none⟩ = some (.slice y0.aa y0.al y0.ac) ∧ w.cell? ⟨b, o + 5, none⟩ = some (.slice y0.ka y0.kl y0.kc)
theorem Held_swap.keep {w w' : World} {b o cb eb B : Nat} {y0 : TV} (h : Held_swap w b o cb eb y0) (hb : Below B w w') (h1 : b < B) (h2 : cb < B) : Held_swap w' b o cb eb y0 := by
  have hk := fun o => hb.cell (p := ⟨b, o, none⟩) h1
  obtain ⟨c, a0, a1, a2, a3, a4, a5⟩ := h
  exact ⟨(hb.cell (p := ⟨cb, 0, none⟩) h2).trans c, (hk _).trans a0, (hk _).trans a1, (hk _).trans a2, (hk _).trans a3, (hk _).trans a4, (hk _).trans a5⟩
set_option maxHeartbeats 4000000 in
theorem swap_calls (u0 : T) (y0 : TV) (b o kl kc B : Nat) (v : Int) (eb mb cb : Nat) (w : World) (hb : b < w.heap.size) (hB : B ≤ w.heap.size) (hkl : 1 ≤ kl) (hE : ExpAt w eb mb cb) (hv : v = 1 ∨ v = 2)
    (h0 : At w b (o) y0) (r0 : Rep w B u0 y0) (n1 : OtherAll u0) (v1 : Verb u0) :
    Calls Tryz.prog 53 #[.slice (some ⟨b, o, none⟩) kl kc, .int .i64 v, .pointer (some ⟨cb, 0, none⟩)] w (TwinPost (T.dyT (T.other u0 2) T.yT (T.leftT v)) w) := by
  have HC1 := Lib.hid (fun W (h : Below w.heap.size w W) => other_later n1 v1 r0 hB hE h (.inr rfl : (2 : Int) = 1 ∨ (2 : Int) = 2))
  have hc := hE.c
  have hcb := hE.lt.2.2
  have hcb' : cb ≤ w.heap.size := by omega
  have hb' : b ≤ w.heap.size := by omega
  obtain ⟨a00, a01, a02, a03, a04, a05⟩ := h0
  clear hE r0 n1 v1
  have hbx : ¬ b = w.heap.size := by omega
  have hcx : ¬ cb = w.heap.size := by omega
  have hbx' : ¬ w.heap.size = b := by omega
  have hcx' : ¬ w.heap.size = cb := by omega
  have R0 := Lib.hid (Box.new w zeroTV 29)
  have hk0 : (0 : Int) < (kl : Int) := by omega
  have hk0' : 0 < kl := by omega
  have S0 := Lib.hid (show Held_swap w b o cb eb y0 from ⟨hc, a00, a01, a02, a03, a04, a05⟩)
  go_enter Tryz.func53, Tryz.ntmps53
  go_wp2_with fail
  go_region_held3 (fun w' => w'.cell? ⟨cb, 0, none⟩ = some (.pointer (some ⟨eb, 0, none⟩)) ∧ w'.cell? ⟨b, o, none⟩ = some (.int .i64 y0.kind) ∧ w'.cell? ⟨b, o + 1, none⟩ = some (.string y0.text) ∧ w'.cell? ⟨b, o + 2, none⟩ = some (.int .i64 y0.n) ∧ w'.cell? ⟨b, o + 3, none⟩ = some (.slice y0.sa y0.sl y0.sc) ∧ w'.cell? ⟨b, o + 4, none⟩ = some (.slice y0.aa y0.al y0.ac) ∧ w'.cell? ⟨b, o + 5, none⟩ = some (.slice y0.ka y0.kl y0.kc))
    (first | (with_reducible exact S4.out) | (with_reducible exact S3.out) | (with_reducible exact S2.out) | (with_reducible exact S1.out) | go_keep | ((try dsimp only); (repeat' apply And.intro); (all_goals go_keep)))
    (first
      | (go_at_call 50; (with_reducible refine (HC1.out _ (by go_grown)).mono ?_); rintro e w1 ⟨z1, F1, rfl, hO1, hF1, hb1⟩; simp only [TV.val, TV.cells]; have hB1 : Below w.heap.size w w1 := Below.trans (by go_grown) (hb1.mono (by simp)); have S1 := S0.out.keep hB1 hb hcb; unfold Held_swap at S1; have S1 := Lib.hid S1; have R1 : Box w1 w.heap.size zeroTV := (by first | exact R0.out.below hb1 (by simp) | exact R0.out.drew.below hb1 (by simp)); have hz1 := R1.lt; have R1 := Lib.hid R1; have HO1 := Lib.hid hO1; have HFc := Lib.hid (hF1.mono (a' := w.heap.size + 1) (by simp) (Nat.le_refl _)); have HB1 := Lib.hid hb1; clear hO1 hF1 hb1)
      | (go_at_call 55; (with_reducible refine (name_calls _ _).mono ?_); rintro e w2 ⟨rfl, hb2⟩; simp only [leafTV, TV.val, TV.cells]; have hB2 : Below w.heap.size w w2 := hB1.trans (hb2.mono hB1.size); have S2 := S0.out.keep hB2 hb hcb; unfold Held_swap at S2; have S2 := Lib.hid S2; have R2 : Box w2 w.heap.size zeroTV := R1.out.below hb2 hz1; have hz2 := R2.lt; have R2 := Lib.hid R2; have HO1 := Lib.hid (Own.later HO1.out (fun c hc => HFc.out.hi c (by first | (simp [hc]; done) | (cases hc))) hb2); have HO2 : Hid (Own w2 (T.yT) (leafTV 2 ⟨#[121]⟩) []) := Lib.hid (leaf_own w2 2 ⟨#[121]⟩ (by decide) (by decide) (by decide)); have HFc := Lib.hid (show Fresh (w.heap.size + 1) w2.heap.size (F1 ++ []) from by rw [List.append_nil]; exact HFc.out.mono (Nat.le_refl _) hb2.size); have HB2 := Lib.hid hb2; clear hb2)
      | (go_at_call 56; (with_reducible refine (left_calls _ _).mono ?_); rintro e w3 ⟨rfl, hb3⟩; simp only [leafTV, TV.val, TV.cells]; have hB3 : Below w.heap.size w w3 := hB2.trans (hb3.mono hB2.size); have S3 := S0.out.keep hB3 hb hcb; unfold Held_swap at S3; have S3 := Lib.hid S3; have R3 : Box w3 w.heap.size zeroTV := R2.out.below hb3 hz2; have hz3 := R3.lt; have R3 := Lib.hid R3; have HO1 := Lib.hid (Own.later HO1.out (fun c hc => HFc.out.hi c (by first | (simp [hc]; done) | (cases hc))) hb3); have HO2 := Lib.hid (Own.later HO2.out (fun c hc => HFc.out.hi c (by first | (simp [hc]; done) | (cases hc))) hb3); have HO3 : Hid (Own w3 (T.leftT v) (leafTV 2 (leftB v)) []) := Lib.hid (left_own w3 v); have HFc := Lib.hid (show Fresh (w.heap.size + 1) w3.heap.size (F1 ++ [] ++ []) from by rw [List.append_nil]; exact HFc.out.mono (Nat.le_refl _) hb3.size); have HB3 := Lib.hid hb3; clear hb3)
      | (go_at_call 54; (refine (dy_calls z1 (leafTV 2 ⟨#[121]⟩) (leafTV 2 (leftB v)) _).mono ?_); rintro e w4 ⟨g, rfl, hg, hR, hg2, hb4⟩; simp only [nodeTV, TV.val, TV.cells]; have hB4 : Below w.heap.size w w4 := hB3.trans (hb4.mono hB3.size); have S4 := S0.out.keep hB4 hb hcb; unfold Held_swap at S4; have S4 := Lib.hid S4; have R4 : Box w4 w.heap.size zeroTV := R3.out.below hb4 hz3; obtain ⟨r0, r1, r2, r3, r4, r5, rf⟩ := R4; simp only [zeroTV] at r0 r1 r2 r3 r4 r5; have HB4 := Lib.hid hb4; clear hb4))
  all_goals
    go_wp2_with fail
    obtain ⟨hOx, hFx⟩ := dy_new HO1.out HO2.out HO3.out HFc.out (by omega) HB4.out hg hg2 hR
    refine bodyPost_ret (v := (nodeTV 4 0 g 3).val) (by simp [results, Tryz.results53, nodeTV, TV.val, TV.cells, r0, r1, r2, r3, r4, r5, rf, go_sem]) rfl ?_
    exact new_ends hOx hFx hB4 _ _ _ _ _ _
end Go.Proofs.YtnnhbpgpkpbinaaGreat
