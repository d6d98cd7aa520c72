/- Package expand: other. Package expand: noun: the ways without an opener. Package expand: noun: through an opener. -/
import Derived.Test.YtnnhbpgpkpbinaaGreatMExpA
import Derived.Test.YtnnhbpgpkpbinaaGreatMOpenA
import Derived.Test.YtnnhbpgpkpbinaaGreatMTermD
set_option linter.unusedVariables false
set_option linter.unusedSimpArgs false
namespace Go.Proofs.YtnnhbpgpkpbinaaGreat
open Go.RowKit

theorem new_ends' {u : T} {w w3 : World} {y : TV} {F : List Nat} {rb : Nat} (hO : Own w3 u y F) (hF : Fresh (rb + 1) w3.heap.size F) (hB : Below w.heap.size w w3) (hr : w.heap.size ≤ rb) (a0 a1 a2 a3 a4 a5 : Value) :
    TwinPost u w (.returned y.val) ((((((w3.setCell ⟨rb, 0, none⟩ a0).setCell ⟨rb, 1, none⟩ a1).setCell ⟨rb, 2, none⟩ a2).setCell ⟨rb, 3, none⟩ a3).setCell ⟨rb, 4, none⟩ a4).setCell ⟨rb, 5, none⟩ a5) := by
  refine ⟨y, F, rfl, Own.kept _ _ _ hO (fun b hb => ?_), hF.mono (by omega) ?_, ?_⟩
  · have := hF.lo b hb
    iterate 6 (refine (Below.heap_setCell _ _ _ _ (fun e => by simp only at e; omega)).trans ?_)
    rfl
  · simp [World.setCell]
  · iterate 6 (refine Below.setCell ?_ (by simpa using hr) _)
    exact hB
/-- a call with one argument's variable and the result's -/
abbrev two (w : World) (x : TV) : World := (w.alloc (.cells #[.int .i64 x.kind, .string x.text, .int .i64 x.n, .slice x.sa x.sl x.sc, .slice x.aa x.al x.ac, .slice x.ka x.kl x.kc] 29)).alloc (.cells #[.int .i64 0, .string ⟨#[]⟩, .int .i64 0, .slice none 0 0, .slice none 0 0, .slice none 0 0] 29)
theorem two_below (w : World) (x : TV) : Below w.heap.size w (two w x) := by go_grown
theorem two_box (w : World) (x : TV) : Box (two w x) w.heap.size x := (Box.new w x 29).alloc _
theorem two_res (w : World) (x : TV) : Box (two w x) (w.heap.size + 1) zeroTV := by
  have := Box.new (w.alloc (.cells x.cells 29)) zeroTV 29
  simpa [zeroTV, TV.cells] using this
theorem two_size (w : World) (x : TV) : (two w x).heap.size = w.heap.size + 2 := by simp
theorem opens_later {x : TV} {v : Int} {eb mb cb : Nat} {b : Bool} {w W : World} (hb : T.opensK x.kind x.text.data.toList v = b) (hE : ExpAt w eb mb cb) (hw : Wee x) (h : Below w.heap.size w W) :
    Calls Tryz.prog 64 #[.pointer (some ⟨eb, 0, none⟩), .agg #[.int .i64 x.kind, .string x.text, .int .i64 x.n, .slice x.sa x.sl x.sc, .slice x.aa x.al x.ac, .slice x.ka x.kl x.kc], .int .i64 v] W fun e w' => e = .returned (.bool b) ∧ Below W.heap.size W w' := by
  have := opens_calls x v eb mb cb W (hE.below h hE.lt.1 hE.lt.2.1 hE.lt.2.2) hw.k0 hw.k1
  rw [hb] at this
  exact this

theorem other_of {t : T} (hn : NounAll t) : OtherAll t := by
  intro hv x B v eb mb cb w hr hB hE h12
  have HT := Lib.hid (fun W (h : Below w.heap.size w W) => twin_later hv.fits hr hB h)
  have HN := Lib.hid (fun W (h : Below w.heap.size w W) => noun_later hn hv hr hB hE h h12)
  have hop : T.opens t v = T.opensK x.kind x.text.data.toList v := by rw [T.opens, ← hr.kind, ← hr.text]
  have hkd := hr.kind
  have HW := Lib.hid hr.wee
  have HE := Lib.hid hE
  simp only [TV.val, TV.cells]
  have B0 := Lib.hid (two_below w x)
  have X0 := Lib.hid (two_box w x)
  have R0 := Lib.hid (two_res w x)
  have Z0 := Lib.hid (two_size w x)
  by_cases h20 : x.kind = 20
  · have HO := Lib.hid (show T.other t v = t from by rw [T.other, T.otherOf, if_pos (.inl (by rw [← hkd]; exact h20))])
    have hd : (x.kind == 20) = true := by simp [h20]
    clear hE hr hn hop hkd h20
    go_enter Tryz.func50, Tryz.ntmps50
    go_wp2_with fail
    refine (HT.out _ B0.out).mono ?_
    rintro e w1 ⟨z, F, rfl, hO, hF, hb1⟩
    have R1 : Box w1 (w.heap.size + 1) zeroTV := R0.out.below hb1 (by have := Z0.out; omega)
    obtain ⟨r0, r1, r2, r3, r4, r5, rf⟩ := R1
    simp only [zeroTV] at r0 r1 r2 r3 r4 r5
    have HB1 := Lib.hid (B0.out.trans (hb1.mono B0.out.size))
    have HO1 := Lib.hid hO
    have HF1 := Lib.hid (hF.mono (a' := w.heap.size + 1 + 1) (by have := Z0.out; omega) (Nat.le_refl _))
    clear hb1 hO hF
    simp only [TV.val, TV.cells]
    go_wp2_with fail
    refine bodyPost_ret (v := z.val) (by simp [results, Tryz.results50, TV.val, TV.cells, r0, r1, r2, r3, r4, r5, rf, go_sem]) rfl ?_
    rw [HO.out]
    exact new_ends' HO1.out HF1.out HB1.out (by omega) _ _ _ _ _ _
  have hd : (x.kind == 20) = false := by simp [h20]
  cases hb : T.opensK x.kind x.text.data.toList v
  · have HO := Lib.hid (show T.other t v = t from by rw [T.other, T.otherOf, if_pos (.inr (by rw [hop]; exact hb))])
    have HP := Lib.hid (fun W (h : Below w.heap.size w W) => opens_later hb HE.out HW.out h)
    clear hE hr hn hop hkd h20 hb
    go_enter Tryz.func50, Tryz.ntmps50
    go_wp2_with fail
    refine (HP.out _ B0.out).mono ?_
    rintro e w0 ⟨rfl, hb0⟩
    have X1 : Box w0 w.heap.size x := X0.out.below hb0 (by have := Z0.out; omega)
    have R1 := Lib.hid (R0.out.below hb0 (by have := Z0.out; omega))
    have HB0 := Lib.hid (B0.out.trans (hb0.mono B0.out.size))
    have hz0 : w.heap.size + 2 ≤ w0.heap.size := by have := hb0.size; have := Z0.out; omega
    obtain ⟨q0, q1, q2, q3, q4, q5, qf⟩ := X1
    clear hb0
    go_wp2_with fail
    refine (HT.out _ HB0.out).mono ?_
    rintro e w1 ⟨z, F, rfl, hO, hF, hb1⟩
    have R2 : Box w1 (w.heap.size + 1) zeroTV := R1.out.below hb1 (by omega)
    obtain ⟨r0, r1, r2, r3, r4, r5, rf⟩ := R2
    simp only [zeroTV] at r0 r1 r2 r3 r4 r5
    have HB1 := Lib.hid (HB0.out.trans (hb1.mono HB0.out.size))
    have HO1 := Lib.hid hO
    have HF1 := Lib.hid (hF.mono (a' := w.heap.size + 1 + 1) (by omega) (Nat.le_refl _))
    clear hb1 hO hF q0 q1 q2 q3 q4 q5 qf
    simp only [TV.val, TV.cells]
    go_wp2_with fail
    refine bodyPost_ret (v := z.val) (by simp [results, Tryz.results50, TV.val, TV.cells, r0, r1, r2, r3, r4, r5, rf, go_sem]) rfl ?_
    rw [HO.out]
    exact new_ends' HO1.out HF1.out HB1.out (by omega) _ _ _ _ _ _
  · have HO := Lib.hid (show T.other t v = T.defT v (T.noun t v) from by
      rw [T.other, T.otherOf, if_neg]
      rintro (h | h)
      · exact h20 (hkd.trans h)
      · rw [hop, hb] at h; cases h)
    have HP := Lib.hid (fun W (h : Below w.heap.size w W) => opens_later hb HE.out HW.out h)
    clear hE hr hn hop hkd h20 hb
    go_enter Tryz.func50, Tryz.ntmps50
    go_wp2_with fail
    refine (HP.out _ B0.out).mono ?_
    rintro e w0 ⟨rfl, hb0⟩
    have X1 : Box w0 w.heap.size x := X0.out.below hb0 (by have := Z0.out; omega)
    have R1 := Lib.hid (R0.out.below hb0 (by have := Z0.out; omega))
    have HB0 := Lib.hid (B0.out.trans (hb0.mono B0.out.size))
    have hz0 : w.heap.size + 2 ≤ w0.heap.size := by have := hb0.size; have := Z0.out; omega
    obtain ⟨q0, q1, q2, q3, q4, q5, qf⟩ := X1
    clear hb0
    go_wp2_with fail
    refine (HN.out _ HB0.out).mono ?_
    rintro e w1 ⟨z, F, rfl, hO, hF, hb1⟩
    have R2 := Lib.hid (R1.out.below hb1 (by omega))
    have HB1 := Lib.hid (HB0.out.trans (hb1.mono HB0.out.size))
    have HO1 := Lib.hid hO
    have HF1 := Lib.hid (hF.mono (a' := w.heap.size + 1 + 1) (by omega) (Nat.le_refl _))
    have hz1 : w.heap.size + 2 ≤ w1.heap.size := by have := hb1.size; omega
    have hD := definition_calls v z w1
    simp only [TV.val, TV.cells] at hD
    clear hb1 hO hF q0 q1 q2 q3 q4 q5 qf
    simp only [TV.val, TV.cells]
    go_wp2_with fail
    refine hD.mono ?_
    rintro e w2 ⟨g1, g2, g3, rfl, hg1, h12', h23, h3, ra, rb, rc, hb2⟩
    have R3 : Box w2 (w.heap.size + 1) zeroTV := R2.out.below hb2 (by omega)
    obtain ⟨r0, r1, r2, r3, r4, r5, rf⟩ := R3
    simp only [zeroTV] at r0 r1 r2 r3 r4 r5
    have HB2 := Lib.hid (HB1.out.trans (hb2.mono HB1.out.size))
    have HNW := Lib.hid (def_new HO1.out HF1.out hz1 hb2 hg1 h12' h23 h3 ra rb rc h12)
    clear hb2 hg1 h12' h23 h3 ra rb rc hD
    simp only [nodeTV]
    go_wp2_with fail
    refine bodyPost_ret (v := (nodeTV 23 v g3 1).val) (by simp [results, Tryz.results50, nodeTV, TV.val, TV.cells, r0, r1, r2, r3, r4, r5, rf, go_sem]) rfl ?_
    rw [HO.out]
    exact new_ends' HNW.out.1 HNW.out.2 HB2.out (by omega) _ _ _ _ _ _
end Go.Proofs.YtnnhbpgpkpbinaaGreat

namespace Go.Proofs.YtnnhbpgpkpbinaaGreat
open Go.RowKit

section
variable {t : T} {x : TV} {B : Nat} {v : Int} {eb mb cb : Nat} {w : World}

set_option maxHeartbeats 1000000 in
theorem noun_right (k : x.kind = 20) (hx : (x.text.toList == [93]) = true) :
    Calls Tryz.prog 28 #[.pointer (some ⟨eb, 0, none⟩), x.val, .int .i64 v] w (TwinPost T.yT w) := by
  simp only [TV.val, TV.cells]
  have B0 := Lib.hid (two_below w x)
  have R0 := Lib.hid (two_res w x)
  have Z0 := Lib.hid (two_size w x)
  have hd : (x.kind == 20) = true := by simp [k]
  clear k
  go_enter Tryz.func28, Tryz.ntmps28
  go_wp2_with fail
  refine (name_calls _ _).mono ?_
  rintro e w1 ⟨rfl, hb1⟩
  have R1 : Box w1 (w.heap.size + 1) zeroTV := R0.out.below hb1 (by simp)
  obtain ⟨r0, r1, r2, r3, r4, r5, rf⟩ := R1
  simp only [zeroTV] at r0 r1 r2 r3 r4 r5
  have HB1 := Lib.hid (B0.out.trans (hb1.mono B0.out.size))
  clear hb1
  simp only [leafTV, TV.val, TV.cells]
  go_wp2_with fail
  refine bodyPost_ret (v := (leafTV 2 ⟨#[121]⟩).val) (by simp [results, Tryz.results28, leafTV, TV.val, TV.cells, r0, r1, r2, r3, r4, r5, rf, go_sem]) rfl ?_
  exact new_ends' (leaf_own w1 2 ⟨#[121]⟩ (by decide) (by decide) (by decide)) (Fresh.nil _ _) HB1.out (by omega) _ _ _ _ _ _

set_option maxHeartbeats 1000000 in
theorem noun_left (k : x.kind = 20) (hx : (x.text.toList == [93]) = false) (hx2 : (x.text.toList == [91]) = true) :
    Calls Tryz.prog 28 #[.pointer (some ⟨eb, 0, none⟩), x.val, .int .i64 v] w (TwinPost (T.leftT v) w) := by
  simp only [TV.val, TV.cells]
  have B0 := Lib.hid (two_below w x)
  have R0 := Lib.hid (two_res w x)
  have Z0 := Lib.hid (two_size w x)
  have hd : (x.kind == 20) = true := by simp [k]
  clear k
  go_enter Tryz.func28, Tryz.ntmps28
  go_wp2_with fail
  refine (left_calls _ _).mono ?_
  rintro e w1 ⟨rfl, hb1⟩
  have R1 : Box w1 (w.heap.size + 1) zeroTV := R0.out.below hb1 (by simp)
  obtain ⟨r0, r1, r2, r3, r4, r5, rf⟩ := R1
  simp only [zeroTV] at r0 r1 r2 r3 r4 r5
  have HB1 := Lib.hid (B0.out.trans (hb1.mono B0.out.size))
  clear hb1
  simp only [leafTV, TV.val, TV.cells]
  go_wp2_with fail
  refine bodyPost_ret (v := (leafTV 2 (leftB v)).val) (by simp [results, Tryz.results28, leafTV, TV.val, TV.cells, r0, r1, r2, r3, r4, r5, rf, go_sem]) rfl ?_
  exact new_ends' (left_own w1 v) (Fresh.nil _ _) HB1.out (by omega) _ _ _ _ _ _

/-- the tests ahead of 'opens', all false -/
def Past (x : TV) : Prop := (x.kind == 20) = false ∨ ((x.kind == 20) = true ∧ (x.text.toList == [93]) = false ∧ (x.text.toList == [91]) = false)

set_option maxHeartbeats 2000000 in
theorem noun_plain (hp : Past x) (hf : t.fits) (hr : Rep w B t x) (hB : B ≤ w.heap.size) (hE : ExpAt w eb mb cb) (hop : T.opensK x.kind x.text.data.toList v = false) (h12 : v = 1 ∨ v = 2) :
    Calls Tryz.prog 28 #[.pointer (some ⟨eb, 0, none⟩), x.val, .int .i64 v] w (TwinPost (if v = 2 then T.dyT t (T.nameT [120]) T.yT else T.monT t T.yT) w) := by
  have HT := Lib.hid (fun W (h : Below w.heap.size w W) => twin_later hf hr hB h)
  have HW := hr.wee
  have HP := Lib.hid (fun W (h : Below w.heap.size w W) => opens_later hop hE HW h)
  have B0 := Lib.hid (two_below w x)
  have X0 := Lib.hid (two_box w x)
  have R0 := Lib.hid (two_res w x)
  have Z0 := Lib.hid (two_size w x)
  simp only [TV.val, TV.cells]
  clear hr hE hop HW
  rcases hp with hd | ⟨hd, hx1, hx2⟩
  all_goals
    rcases h12 with rfl | rfl
    all_goals
      go_enter Tryz.func28, Tryz.ntmps28
      go_wp2_with fail
      refine (HP.out _ B0.out).mono ?_
      rintro e w0 ⟨rfl, hb0⟩
      have X1 : Box w0 w.heap.size x := X0.out.below hb0 (by have := Z0.out; omega)
      have R1 := Lib.hid (R0.out.below hb0 (by have := Z0.out; omega))
      have HB0 := Lib.hid (B0.out.trans (hb0.mono B0.out.size))
      have hz0 : w.heap.size + 2 ≤ w0.heap.size := by have := hb0.size; have := Z0.out; omega
      obtain ⟨q0, q1, q2, q3, q4, q5, qf⟩ := X1
      clear hb0
      go_wp2_with fail
      refine (HT.out _ HB0.out).mono ?_
      rintro e w1 ⟨z, F, rfl, hO, hF, hb1⟩
      have R2 := Lib.hid (R1.out.below hb1 (by omega))
      have HB1 := Lib.hid (HB0.out.trans (hb1.mono HB0.out.size))
      have hz1 : w.heap.size + 2 ≤ w1.heap.size := by have := hb1.size; omega
      have HO1 := Lib.hid hO
      have HF1 := Lib.hid (hF.mono (a' := w.heap.size + 1 + 1) (by omega) (Nat.le_refl _))
      clear hb1 hO hF q0 q1 q2 q3 q4 q5 qf
      simp only [TV.val, TV.cells]
      go_wp2_with fail
      refine (name_calls _ _).mono ?_
      rintro e w2 ⟨rfl, hb2⟩
      have R3 := Lib.hid (R2.out.below hb2 (by omega))
      have HB2 := Lib.hid (HB1.out.trans (hb2.mono HB1.out.size))
      have hz2 : w.heap.size + 2 ≤ w2.heap.size := by have := hb2.size; omega
      have HO2 := Lib.hid (Own.later HO1.out (fun c hc => HF1.out.hi c hc) hb2)
      have HF2 := Lib.hid (HF1.out.mono (Nat.le_refl _) hb2.size)
      clear hb2
      simp only [leafTV, TV.val, TV.cells]
      go_wp2_with fail
      first
        | (have hM := mon_calls z (leafTV 2 ⟨#[121]⟩) w2
           simp only [leafTV, TV.val, TV.cells] at hM
           refine hM.mono ?_
           rintro e w3 ⟨g, rfl, hg, hR, hg2, hb3⟩
           have R4 : Box w3 (w.heap.size + 1) zeroTV := R3.out.below hb3 (by omega)
           obtain ⟨r0, r1, r2, r3, r4, r5, rf⟩ := R4
           simp only [zeroTV] at r0 r1 r2 r3 r4 r5
           have HB3 := Lib.hid (HB2.out.trans (hb3.mono HB2.out.size))
           have HNW := Lib.hid (mon_new HO2.out (leaf_own w2 2 ⟨#[121]⟩ (by decide) (by decide) (by decide)) (show Fresh (w.heap.size + 1 + 1) w2.heap.size (F ++ []) from by rw [List.append_nil]; exact HF2.out) hz2 hb3 hg hg2 hR)
           clear hb3 hg hR hg2 hM
           simp only [nodeTV]
           go_wp2_with fail
           refine bodyPost_ret (v := (nodeTV 3 0 g 2).val) (by simp [results, Tryz.results28, nodeTV, TV.val, TV.cells, r0, r1, r2, r3, r4, r5, rf, go_sem]) rfl ?_
           try rw [if_neg (by decide)]
           exact new_ends' HNW.out.1 HNW.out.2 HB3.out (by omega) _ _ _ _ _ _)
        | (refine (name_calls _ _).mono ?_
           rintro e w3 ⟨rfl, hb3⟩
           have R4 := Lib.hid (R3.out.below hb3 (by omega))
           have HB3 := Lib.hid (HB2.out.trans (hb3.mono HB2.out.size))
           have hz3 : w.heap.size + 2 ≤ w3.heap.size := by have := hb3.size; omega
           have HO3 := Lib.hid (Own.later HO2.out (fun c hc => HF2.out.hi c hc) hb3)
           have HF3 := Lib.hid (HF2.out.mono (Nat.le_refl _) hb3.size)
           clear hb3
           simp only [leafTV, TV.val, TV.cells]
           go_wp2_with fail
           have hM := dy_calls z (leafTV 2 ⟨#[120]⟩) (leafTV 2 ⟨#[121]⟩) w3
           simp only [leafTV, TV.val, TV.cells] at hM
           refine hM.mono ?_
           rintro e w4 ⟨g, rfl, hg, hR, hg2, hb4⟩
           have R5 : Box w4 (w.heap.size + 1) zeroTV := R4.out.below hb4 (by omega)
           obtain ⟨r0, r1, r2, r3, r4, r5, rf⟩ := R5
           simp only [zeroTV] at r0 r1 r2 r3 r4 r5
           have HB4 := Lib.hid (HB3.out.trans (hb4.mono HB3.out.size))
           have HNW := Lib.hid (dy_new HO3.out (leaf_own w3 2 ⟨#[120]⟩ (by decide) (by decide) (by decide)) (leaf_own w3 2 ⟨#[121]⟩ (by decide) (by decide) (by decide)) (show Fresh (w.heap.size + 1 + 1) w3.heap.size (F ++ [] ++ []) from by rw [List.append_nil, List.append_nil]; exact HF3.out) hz3 hb4 hg hg2 hR)
           clear hb4 hg hR hg2 hM
           simp only [nodeTV]
           go_wp2_with fail
           refine bodyPost_ret (v := (nodeTV 4 0 g 3).val) (by simp [results, Tryz.results28, nodeTV, TV.val, TV.cells, r0, r1, r2, r3, r4, r5, rf, go_sem]) rfl ?_
           try rw [if_pos rfl]
           exact new_ends' HNW.out.1 HNW.out.2 HB4.out (by omega) _ _ _ _ _ _)
end
end Go.Proofs.YtnnhbpgpkpbinaaGreat

namespace Go.Proofs.YtnnhbpgpkpbinaaGreat
open Go.RowKit

set_option maxRecDepth 100000 in
set_option maxHeartbeats 2000000 in
theorem noun_open {x : TV} {v : Int} {eb mb cb j : Nat} {cs : Array Value} {w : World} {u : T} (hd : (x.kind == 20) = false) (hE : ExpAt w eb mb cb) (hop : T.opensK x.kind x.text.data.toList v = true) (hw : Wee x)
    (ho : opener cb x.kind = .func (.func j) #[] cs) (hC : ∀ W, Below w.heap.size w W → Calls Tryz.prog j (#[.slice x.ka x.kl x.kc, .int .i64 v] ++ cs) W (TwinPost u W)) (hj : ∀ (a : Array Value) (W : World), (callFunc j a).run Tryz.prog W = .ok (.enter j a) W) :
    Calls Tryz.prog 28 #[.pointer (some ⟨eb, 0, none⟩), x.val, .int .i64 v] w (TwinPost u w) := by
  have HP := Lib.hid (fun W (h : Below w.heap.size w W) => opens_later hop hE hw h)
  have HC := Lib.hid hC
  have HE := Lib.hid hE
  have HO := Lib.hid ho
  have HWE := Lib.hid hw
  have B0 := Lib.hid (two_below w x)
  have X0 := Lib.hid (two_box w x)
  have R0 := Lib.hid (two_res w x)
  have Z0 := Lib.hid (two_size w x)
  simp only [TV.val, TV.cells]
  clear hE hop hw hC ho
  go_enter Tryz.func28, Tryz.ntmps28
  go_wp2_with fail
  refine (HP.out _ B0.out).mono ?_
  rintro e w0 ⟨rfl, hb0⟩
  have X1 : Box w0 w.heap.size x := X0.out.below hb0 (by have := Z0.out; omega)
  have R1 := Lib.hid (R0.out.below hb0 (by have := Z0.out; omega))
  have HB0 := Lib.hid (B0.out.trans (hb0.mono B0.out.size))
  have hz0 : w.heap.size + 2 ≤ w0.heap.size := by have := hb0.size; have := Z0.out; omega
  have hE0 := HE.out.below HB0.out HE.out.lt.1 HE.out.lt.2.1 HE.out.lt.2.2
  have hrun : (Instr.lookup 79 (.map (some mb)) (.int .i64 x.kind) false).run Tryz.prog w0.drew = .ok (.func (.func j) #[] cs) w0.drew := by
    rw [lookup_run (w := w0.drew) (cb := cb) hE0.m HWE.out.k0 HWE.out.k1, HO.out]
  have he := hE0.e
  obtain ⟨q0, q1, q2, q3, q4, q5, qf⟩ := X1
  clear hb0 hE0
  go_wp2_with fail
  refine still_tail 10 (by kernel_rfl) (by kernel_rfl) ?_
  simp only [List.take_succ_cons, List.take_zero, List.drop_succ_cons, List.drop_zero]
  repeat still_step
  refine wpStill_nil ?_
  go_wp2_with fail
  refine (HC.out _ HB0.out.drew).mono ?_
  rintro e w1 ⟨z, F, rfl, hO, hF, hb1⟩
  have R2 : Box w1 (w.heap.size + 1) zeroTV := R1.out.drew.below hb1 (by show w.heap.size + 1 < w0.heap.size; omega)
  obtain ⟨r0, r1, r2, r3, r4, r5, rf⟩ := R2
  simp only [zeroTV] at r0 r1 r2 r3 r4 r5
  have HB1 := Lib.hid (HB0.out.drew.trans (hb1.mono (show w.heap.size ≤ w0.drew.heap.size from HB0.out.size)))
  have HO1 := Lib.hid hO
  have HF1 := Lib.hid (hF.mono (a' := w.heap.size + 1 + 1) (by show w.heap.size + 1 + 1 ≤ w0.heap.size; omega) (Nat.le_refl _))
  clear hb1 hO hF q0 q1 q2 q3 q4 q5 qf hrun he
  simp only [TV.val, TV.cells]
  go_wp2_with fail
  refine bodyPost_ret (v := z.val) (by simp [results, Tryz.results28, TV.val, TV.cells, r0, r1, r2, r3, r4, r5, rf, go_sem]) rfl ?_
  exact new_ends' HO1.out HF1.out HB1.out (by omega) _ _ _ _ _ _
theorem call_48 (a : Array Value) (W : World) : (callFunc 48 a).run Tryz.prog W = .ok (.enter 48 a) W := by kernel_rfl
end Go.Proofs.YtnnhbpgpkpbinaaGreat
