/- Package expand: noun: through an opener. -/
import Derived.Test.YtnnhbpgpkpbinaaGreatExp7
import Derived.Test.YtnnhbpgpkpbinaaGreatOpen1
import Derived.Test.YtnnhbpgpkpbinaaGreatTerm9
namespace Go.Proofs.YtnnhbpgpkpbinaaGreat
open Go.RowKit

set_option maxRecDepth 100000 in
set_option maxHeartbeats 2000000 in
theorem noun_open {x : TV} {v : Int} {eb mb cb j : Nat} {cs : Array Value} {w : World} {u : T} (hd : (x.kind == 20) = false) (hE : ExpAt w eb mb cb) (hop : T.opensK x.kind x.text.data.toList v = true) (hw : Wee x)
    (ho : opener cb x.kind = .func (.func j) #[] cs) (hC : ∀ W, Below w.heap.size w W → Calls Tryz.prog j (#[.slice x.ka x.kl x.kc, .int .i64 v] ++ cs) W (TwinPost u W)) (hj : ∀ (a : Array Value) (W : World), (callFunc j a).run Tryz.prog W = .ok (.enter j a) W) :
    Calls Tryz.prog 28 #[.pointer (some ⟨eb, 0, none⟩), x.val, .int .i64 v] w (TwinPost u w) := by
  have HP := Lib.hid (fun W (h : Below w.heap.size w W) => opens_later hop hE hw h)
  have HC := Lib.hid hC
  have HE := Lib.hid hE
  have HO := Lib.hid ho
  have HWE := Lib.hid hw
  have B0 := Lib.hid (two_below w x)
  have X0 := Lib.hid (two_box w x)
  have R0 := Lib.hid (two_res w x)
  have Z0 := Lib.hid (two_size w x)
  simp only [TV.val, TV.cells]
  clear hE hop hw hC ho
  go_enter Tryz.func28, Tryz.ntmps28
  go_wp2_with fail
  refine (HP.out _ B0.out).mono ?_
  rintro e w0 ⟨rfl, hb0⟩
  have X1 : Box w0 w.heap.size x := X0.out.below hb0 (by have := Z0.out; omega)
  have R1 := Lib.hid (R0.out.below hb0 (by have := Z0.out; omega))
  have HB0 := Lib.hid (B0.out.trans (hb0.mono B0.out.size))
  have hz0 : w.heap.size + 2 ≤ w0.heap.size := by have := hb0.size; have := Z0.out; omega
  have hE0 := HE.out.below HB0.out HE.out.lt.1 HE.out.lt.2.1 HE.out.lt.2.2
  have hrun : (Instr.lookup 79 (.map (some mb)) (.int .i64 x.kind) false).run Tryz.prog w0.drew = .ok (.func (.func j) #[] cs) w0.drew := by
    rw [lookup_run (w := w0.drew) (cb := cb) hE0.m HWE.out.k0 HWE.out.k1, HO.out]
  have he := hE0.e
  obtain ⟨q0, q1, q2, q3, q4, q5, qf⟩ := X1
  clear hb0 hE0
  go_wp2_with fail
  refine still_tail 10 (by kernel_rfl) (by kernel_rfl) ?_
  simp only [List.take_succ_cons, List.take_zero, List.drop_succ_cons, List.drop_zero]
  repeat still_step
  refine wpStill_nil ?_
  go_wp2_with fail
  refine (HC.out _ HB0.out.drew).mono ?_
  rintro e w1 ⟨z, F, rfl, hO, hF, hb1⟩
  have R2 : Box w1 (w.heap.size + 1) zeroTV := R1.out.drew.below hb1 (by show w.heap.size + 1 < w0.heap.size; omega)
  obtain ⟨r0, r1, r2, r3, r4, r5, rf⟩ := R2
  simp only [zeroTV] at r0 r1 r2 r3 r4 r5
  have HB1 := Lib.hid (HB0.out.drew.trans (hb1.mono (show w.heap.size ≤ w0.drew.heap.size from HB0.out.size)))
  have HO1 := Lib.hid hO
  have HF1 := Lib.hid (hF.mono (a' := w.heap.size + 1 + 1) (by show w.heap.size + 1 + 1 ≤ w0.heap.size; omega) (Nat.le_refl _))
  clear hb1 hO hF q0 q1 q2 q3 q4 q5 qf hrun he
  simp only [TV.val, TV.cells]
  go_wp2_with fail
  refine bodyPost_ret (v := z.val) (by simp [results, Tryz.results28, TV.val, TV.cells, r0, r1, r2, r3, r4, r5, rf, go_sem]) rfl ?_
  exact new_ends' HO1.out HF1.out HB1.out (by omega) _ _ _ _ _ _
theorem call_48 (a : Array Value) (W : World) : (callFunc 48 a).run Tryz.prog W = .ok (.enter 48 a) W := by kernel_rfl
end Go.Proofs.YtnnhbpgpkpbinaaGreat
