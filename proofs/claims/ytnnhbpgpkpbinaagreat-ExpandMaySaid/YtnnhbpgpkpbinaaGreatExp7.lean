/- Package expand: noun: the ways without an opener. -/
import Derived.Test.YtnnhbpgpkpbinaaGreatExp6
namespace Go.Proofs.YtnnhbpgpkpbinaaGreat
open Go.RowKit

section
variable {t : T} {x : TV} {B : Nat} {v : Int} {eb mb cb : Nat} {w : World}

set_option maxHeartbeats 1000000 in
theorem noun_right (k : x.kind = 20) (hx : (x.text.toList == [93]) = true) :
    Calls Tryz.prog 28 #[.pointer (some ⟨eb, 0, none⟩), x.val, .int .i64 v] w (TwinPost T.yT w) := by
  simp only [TV.val, TV.cells]
  have B0 := Lib.hid (two_below w x)
  have R0 := Lib.hid (two_res w x)
  have Z0 := Lib.hid (two_size w x)
  have hd : (x.kind == 20) = true := by simp [k]
  clear k
  go_enter Tryz.func28, Tryz.ntmps28
  go_wp2_with fail
  refine (name_calls _ _).mono ?_
  rintro e w1 ⟨rfl, hb1⟩
  have R1 : Box w1 (w.heap.size + 1) zeroTV := R0.out.below hb1 (by simp)
  obtain ⟨r0, r1, r2, r3, r4, r5, rf⟩ := R1
  simp only [zeroTV] at r0 r1 r2 r3 r4 r5
  have HB1 := Lib.hid (B0.out.trans (hb1.mono B0.out.size))
  clear hb1
  simp only [leafTV, TV.val, TV.cells]
  go_wp2_with fail
  refine bodyPost_ret (v := (leafTV 2 ⟨#[121]⟩).val) (by simp [results, Tryz.results28, leafTV, TV.val, TV.cells, r0, r1, r2, r3, r4, r5, rf, go_sem]) rfl ?_
  exact new_ends' (leaf_own w1 2 ⟨#[121]⟩ (by decide) (by decide) (by decide)) (Fresh.nil _ _) HB1.out (by omega) _ _ _ _ _ _

set_option maxHeartbeats 1000000 in
theorem noun_left (k : x.kind = 20) (hx : (x.text.toList == [93]) = false) (hx2 : (x.text.toList == [91]) = true) :
    Calls Tryz.prog 28 #[.pointer (some ⟨eb, 0, none⟩), x.val, .int .i64 v] w (TwinPost (T.leftT v) w) := by
  simp only [TV.val, TV.cells]
  have B0 := Lib.hid (two_below w x)
  have R0 := Lib.hid (two_res w x)
  have Z0 := Lib.hid (two_size w x)
  have hd : (x.kind == 20) = true := by simp [k]
  clear k
  go_enter Tryz.func28, Tryz.ntmps28
  go_wp2_with fail
  refine (left_calls _ _).mono ?_
  rintro e w1 ⟨rfl, hb1⟩
  have R1 : Box w1 (w.heap.size + 1) zeroTV := R0.out.below hb1 (by simp)
  obtain ⟨r0, r1, r2, r3, r4, r5, rf⟩ := R1
  simp only [zeroTV] at r0 r1 r2 r3 r4 r5
  have HB1 := Lib.hid (B0.out.trans (hb1.mono B0.out.size))
  clear hb1
  simp only [leafTV, TV.val, TV.cells]
  go_wp2_with fail
  refine bodyPost_ret (v := (leafTV 2 (leftB v)).val) (by simp [results, Tryz.results28, leafTV, TV.val, TV.cells, r0, r1, r2, r3, r4, r5, rf, go_sem]) rfl ?_
  exact new_ends' (left_own w1 v) (Fresh.nil _ _) HB1.out (by omega) _ _ _ _ _ _

/-- the tests ahead of 'opens', all false -/
def Past (x : TV) : Prop := (x.kind == 20) = false ∨ ((x.kind == 20) = true ∧ (x.text.toList == [93]) = false ∧ (x.text.toList == [91]) = false)

set_option maxHeartbeats 2000000 in
theorem noun_plain (hp : Past x) (hf : t.fits) (hr : Rep w B t x) (hB : B ≤ w.heap.size) (hE : ExpAt w eb mb cb) (hop : T.opensK x.kind x.text.data.toList v = false) (h12 : v = 1 ∨ v = 2) :
    Calls Tryz.prog 28 #[.pointer (some ⟨eb, 0, none⟩), x.val, .int .i64 v] w (TwinPost (if v = 2 then T.dyT t (T.nameT [120]) T.yT else T.monT t T.yT) w) := by
  have HT := Lib.hid (fun W (h : Below w.heap.size w W) => twin_later hf hr hB h)
  have HW := hr.wee
  have HP := Lib.hid (fun W (h : Below w.heap.size w W) => opens_later hop hE HW h)
  have B0 := Lib.hid (two_below w x)
  have X0 := Lib.hid (two_box w x)
  have R0 := Lib.hid (two_res w x)
  have Z0 := Lib.hid (two_size w x)
  simp only [TV.val, TV.cells]
  clear hr hE hop HW
  rcases hp with hd | ⟨hd, hx1, hx2⟩
  all_goals
    rcases h12 with rfl | rfl
    all_goals
      go_enter Tryz.func28, Tryz.ntmps28
      go_wp2_with fail
      refine (HP.out _ B0.out).mono ?_
      rintro e w0 ⟨rfl, hb0⟩
      have X1 : Box w0 w.heap.size x := X0.out.below hb0 (by have := Z0.out; omega)
      have R1 := Lib.hid (R0.out.below hb0 (by have := Z0.out; omega))
      have HB0 := Lib.hid (B0.out.trans (hb0.mono B0.out.size))
      have hz0 : w.heap.size + 2 ≤ w0.heap.size := by have := hb0.size; have := Z0.out; omega
      obtain ⟨q0, q1, q2, q3, q4, q5, qf⟩ := X1
      clear hb0
      go_wp2_with fail
      refine (HT.out _ HB0.out).mono ?_
      rintro e w1 ⟨z, F, rfl, hO, hF, hb1⟩
      have R2 := Lib.hid (R1.out.below hb1 (by omega))
      have HB1 := Lib.hid (HB0.out.trans (hb1.mono HB0.out.size))
      have hz1 : w.heap.size + 2 ≤ w1.heap.size := by have := hb1.size; omega
      have HO1 := Lib.hid hO
      have HF1 := Lib.hid (hF.mono (a' := w.heap.size + 1 + 1) (by omega) (Nat.le_refl _))
      clear hb1 hO hF q0 q1 q2 q3 q4 q5 qf
      simp only [TV.val, TV.cells]
      go_wp2_with fail
      refine (name_calls _ _).mono ?_
      rintro e w2 ⟨rfl, hb2⟩
      have R3 := Lib.hid (R2.out.below hb2 (by omega))
      have HB2 := Lib.hid (HB1.out.trans (hb2.mono HB1.out.size))
      have hz2 : w.heap.size + 2 ≤ w2.heap.size := by have := hb2.size; omega
      have HO2 := Lib.hid (Own.later HO1.out (fun c hc => HF1.out.hi c hc) hb2)
      have HF2 := Lib.hid (HF1.out.mono (Nat.le_refl _) hb2.size)
      clear hb2
      simp only [leafTV, TV.val, TV.cells]
      go_wp2_with fail
      first
        | (have hM := mon_calls z (leafTV 2 ⟨#[121]⟩) w2
           simp only [leafTV, TV.val, TV.cells] at hM
           refine hM.mono ?_
           rintro e w3 ⟨g, rfl, hg, hR, hg2, hb3⟩
           have R4 : Box w3 (w.heap.size + 1) zeroTV := R3.out.below hb3 (by omega)
           obtain ⟨r0, r1, r2, r3, r4, r5, rf⟩ := R4
           simp only [zeroTV] at r0 r1 r2 r3 r4 r5
           have HB3 := Lib.hid (HB2.out.trans (hb3.mono HB2.out.size))
           have HNW := Lib.hid (mon_new HO2.out (leaf_own w2 2 ⟨#[121]⟩ (by decide) (by decide) (by decide)) (show Fresh (w.heap.size + 1 + 1) w2.heap.size (F ++ []) from by rw [List.append_nil]; exact HF2.out) hz2 hb3 hg hg2 hR)
           clear hb3 hg hR hg2 hM
           simp only [nodeTV]
           go_wp2_with fail
           refine bodyPost_ret (v := (nodeTV 3 0 g 2).val) (by simp [results, Tryz.results28, nodeTV, TV.val, TV.cells, r0, r1, r2, r3, r4, r5, rf, go_sem]) rfl ?_
           try rw [if_neg (by decide)]
           exact new_ends' HNW.out.1 HNW.out.2 HB3.out (by omega) _ _ _ _ _ _)
        | (refine (name_calls _ _).mono ?_
           rintro e w3 ⟨rfl, hb3⟩
           have R4 := Lib.hid (R3.out.below hb3 (by omega))
           have HB3 := Lib.hid (HB2.out.trans (hb3.mono HB2.out.size))
           have hz3 : w.heap.size + 2 ≤ w3.heap.size := by have := hb3.size; omega
           have HO3 := Lib.hid (Own.later HO2.out (fun c hc => HF2.out.hi c hc) hb3)
           have HF3 := Lib.hid (HF2.out.mono (Nat.le_refl _) hb3.size)
           clear hb3
           simp only [leafTV, TV.val, TV.cells]
           go_wp2_with fail
           have hM := dy_calls z (leafTV 2 ⟨#[120]⟩) (leafTV 2 ⟨#[121]⟩) w3
           simp only [leafTV, TV.val, TV.cells] at hM
           refine hM.mono ?_
           rintro e w4 ⟨g, rfl, hg, hR, hg2, hb4⟩
           have R5 : Box w4 (w.heap.size + 1) zeroTV := R4.out.below hb4 (by omega)
           obtain ⟨r0, r1, r2, r3, r4, r5, rf⟩ := R5
           simp only [zeroTV] at r0 r1 r2 r3 r4 r5
           have HB4 := Lib.hid (HB3.out.trans (hb4.mono HB3.out.size))
           have HNW := Lib.hid (dy_new HO3.out (leaf_own w3 2 ⟨#[120]⟩ (by decide) (by decide) (by decide)) (leaf_own w3 2 ⟨#[121]⟩ (by decide) (by decide) (by decide)) (show Fresh (w.heap.size + 1 + 1) w3.heap.size (F ++ [] ++ []) from by rw [List.append_nil, List.append_nil]; exact HF3.out) hz3 hb4 hg hg2 hR)
           clear hb4 hg hR hg2 hM
           simp only [nodeTV]
           go_wp2_with fail
           refine bodyPost_ret (v := (nodeTV 4 0 g 3).val) (by simp [results, Tryz.results28, nodeTV, TV.val, TV.cells, r0, r1, r2, r3, r4, r5, rf, go_sem]) rfl ?_
           try rw [if_pos rfl]
           exact new_ends' HNW.out.1 HNW.out.2 HB4.out (by omega) _ _ _ _ _ _)
end
end Go.Proofs.YtnnhbpgpkpbinaaGreat
