/- Package expand: the openers of a constant, of both. -/
import Derived.Test.YtnnhbpgpkpbinaaGreatExp5
import Derived.Test.YtnnhbpgpkpbinaaGreatTerm9
namespace Go.Proofs.YtnnhbpgpkpbinaaGreat
open Go.RowKit

set_option maxRecDepth 100000 in
set_option maxHeartbeats 1000000 in
theorem const_calls (u0 : T) (y0 : TV) (b o kl kc B : Nat) (v : Int) (w : World) (hb : b < w.heap.size) (hB : B ≤ w.heap.size) (hkl : 1 ≤ kl) (h0 : At w b o y0) (r0 : Rep w B u0 y0) (f : T.fits u0) :
    Calls Tryz.prog 51 #[.slice (some ⟨b, o, none⟩) kl kc, .int .i64 v] w (TwinPost u0 w) := by
  have HC := Lib.hid (fun W (h : Below w.heap.size w W) => twin_later f r0 hB h)
  have R0 := Lib.hid (Box.new w zeroTV 29)
  obtain ⟨a0, a1, a2, a3, a4, a5⟩ := h0
  have hk0' : 0 < kl := by omega
  have hw0 : IntKind.i64.wrap 0 = 0 := by decide
  have hk0 : (0 : Int) < (kl : Int) := by omega
  clear r0 f
  go_enter Tryz.func51, Tryz.ntmps51
  go_wp2_with (go_at_call 52; (with_reducible refine (HC.out _ (by go_grown)).mono ?_); rintro e w1 ⟨z, F, rfl, hO, hF, hb1⟩; simp only [TV.val, TV.cells]; have R1 : Box w1 w.heap.size zeroTV := R0.out.below hb1 (by simp); obtain ⟨r0, r1, r2, r3, r4, r5, rf⟩ := R1; simp only [zeroTV] at r0 r1 r2 r3 r4 r5; have HB1 : Hid (Below w.heap.size w w1) := Lib.hid (Below.trans (by go_grown) (hb1.mono (by simp))); have HO := Lib.hid hO; have HF := Lib.hid (hF.mono (a' := w.heap.size + 1) (by simp) (Nat.le_refl _)); clear hb1 hO hF)
  refine bodyPost_ret (v := z.val) (by simp [results, Tryz.results51, TV.val, TV.cells, r0, r1, r2, r3, r4, r5, rf, go_sem]) rfl ?_
  exact new_ends HO.out HF.out HB1.out _ _ _ _ _ _

set_option maxRecDepth 100000 in
set_option maxHeartbeats 1000000 in
theorem bothV1 (u0 : T) (y0 : TV) (b o kl kc B : Nat) (eb mb cb : Nat) (w : World) (hb : b < w.heap.size) (hB : B ≤ w.heap.size) (hkl : 1 ≤ kl) (hE : ExpAt w eb mb cb) (h0 : At w b (o) y0) (r0 : Rep w B u0 y0) (n1 : NounAll u0) (v1 : Verb u0) :
    Calls Tryz.prog 63 #[.slice (some ⟨b, o, none⟩) kl kc, .int .i64 1, .pointer (some ⟨cb, 0, none⟩)] w (TwinPost (T.noun u0 1) w) := by
  have HC := Lib.hid (fun W (h : Below w.heap.size w W) => noun_later (v := 1) n1 v1 r0 hB hE h (by decide))
  have R0 := Lib.hid (Box.new w zeroTV 29)
  have hc := hE.c
  have hcb := hE.lt.2.2
  obtain ⟨a0, a1, a2, a3, a4, a5⟩ := h0
  have hk0' : 0 < kl := by omega
  have hw0 : IntKind.i64.wrap 0 = 0 := by decide
  have hk0 : (0 : Int) < (kl : Int) := by omega
  clear r0 n1 v1 hE
  go_enter Tryz.func63, Tryz.ntmps63
  go_wp2_with fail
  refine still_tail 7 (by kernel_rfl) (by kernel_rfl) ?_
  simp only [List.take_succ_cons, List.take_zero, List.drop_succ_cons, List.drop_zero]
  repeat still_step
  refine wpStill_nil ?_
  go_wp2_with (go_at_call 28; (with_reducible refine (HC.out _ (by go_grown)).mono ?_); rintro e w1 ⟨z, F, rfl, hO, hF, hb1⟩; simp only [TV.val, TV.cells]; have R1 : Box w1 w.heap.size zeroTV := R0.out.drew.below hb1 (by simp); obtain ⟨r0, r1, r2, r3, r4, r5, rf⟩ := R1; simp only [zeroTV] at r0 r1 r2 r3 r4 r5; have HB1 : Hid (Below w.heap.size w w1) := Lib.hid (Below.trans (by go_grown) (hb1.mono (by simp))); have HO := Lib.hid hO; have HF := Lib.hid (hF.mono (a' := w.heap.size + 1) (by simp) (Nat.le_refl _)); clear hb1 hO hF)
  refine bodyPost_ret (v := z.val) (by simp [results, Tryz.results63, TV.val, TV.cells, r0, r1, r2, r3, r4, r5, rf, go_sem]) rfl ?_
  exact new_ends HO.out HF.out HB1.out _ _ _ _ _ _

set_option maxRecDepth 100000 in
set_option maxHeartbeats 1000000 in
theorem bothV2 (u0 : T) (y0 : TV) (b o kl kc B : Nat) (eb mb cb : Nat) (w : World) (hb : b < w.heap.size) (hB : B ≤ w.heap.size) (hkl : 2 ≤ kl) (hE : ExpAt w eb mb cb) (h0 : At w b (o + 6) y0) (r0 : Rep w B u0 y0) (n1 : NounAll u0) (v1 : Verb u0) :
    Calls Tryz.prog 63 #[.slice (some ⟨b, o, none⟩) kl kc, .int .i64 2, .pointer (some ⟨cb, 0, none⟩)] w (TwinPost (T.noun u0 2) w) := by
  have HC := Lib.hid (fun W (h : Below w.heap.size w W) => noun_later (v := 2) n1 v1 r0 hB hE h (by decide))
  have R0 := Lib.hid (Box.new w zeroTV 29)
  have hc := hE.c
  have hcb := hE.lt.2.2
  obtain ⟨a0, a1, a2, a3, a4, a5⟩ := h0
  have hk0' : 1 < kl := by omega
  have hw0 : IntKind.i64.wrap 1 = 1 := by decide
  have hk0 : (1 : Int) < (kl : Int) := by omega
  clear r0 n1 v1 hE
  go_enter Tryz.func63, Tryz.ntmps63
  go_wp2_with fail
  refine still_tail 7 (by kernel_rfl) (by kernel_rfl) ?_
  simp only [List.take_succ_cons, List.take_zero, List.drop_succ_cons, List.drop_zero]
  repeat still_step
  refine wpStill_nil ?_
  go_wp2_with (go_at_call 28; (with_reducible refine (HC.out _ (by go_grown)).mono ?_); rintro e w1 ⟨z, F, rfl, hO, hF, hb1⟩; simp only [TV.val, TV.cells]; have R1 : Box w1 w.heap.size zeroTV := R0.out.drew.below hb1 (by simp); obtain ⟨r0, r1, r2, r3, r4, r5, rf⟩ := R1; simp only [zeroTV] at r0 r1 r2 r3 r4 r5; have HB1 : Hid (Below w.heap.size w w1) := Lib.hid (Below.trans (by go_grown) (hb1.mono (by simp))); have HO := Lib.hid hO; have HF := Lib.hid (hF.mono (a' := w.heap.size + 1) (by simp) (Nat.le_refl _)); clear hb1 hO hF)
  refine bodyPost_ret (v := z.val) (by simp [results, Tryz.results63, TV.val, TV.cells, r0, r1, r2, r3, r4, r5, rf, go_sem]) rfl ?_
  exact new_ends HO.out HF.out HB1.out _ _ _ _ _ _
end Go.Proofs.YtnnhbpgpkpbinaaGreat
