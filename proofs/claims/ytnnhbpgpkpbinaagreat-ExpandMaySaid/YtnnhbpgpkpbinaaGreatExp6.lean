/- Package expand: other. -/
import Derived.Test.YtnnhbpgpkpbinaaGreatExp5
namespace Go.Proofs.YtnnhbpgpkpbinaaGreat
open Go.RowKit

theorem new_ends' {u : T} {w w3 : World} {y : TV} {F : List Nat} {rb : Nat} (hO : Own w3 u y F) (hF : Fresh (rb + 1) w3.heap.size F) (hB : Below w.heap.size w w3) (hr : w.heap.size ≤ rb) (a0 a1 a2 a3 a4 a5 : Value) :
    TwinPost u w (.returned y.val) ((((((w3.setCell ⟨rb, 0, none⟩ a0).setCell ⟨rb, 1, none⟩ a1).setCell ⟨rb, 2, none⟩ a2).setCell ⟨rb, 3, none⟩ a3).setCell ⟨rb, 4, none⟩ a4).setCell ⟨rb, 5, none⟩ a5) := by
  refine ⟨y, F, rfl, Own.kept _ _ _ hO (fun b hb => ?_), hF.mono (by omega) ?_, ?_⟩
  · have := hF.lo b hb
    iterate 6 (refine (Below.heap_setCell _ _ _ _ (fun e => by simp only at e; omega)).trans ?_)
    rfl
  · simp [World.setCell]
  · iterate 6 (refine Below.setCell ?_ (by simpa using hr) _)
    exact hB
/-- a call with one argument's variable and the result's -/
abbrev two (w : World) (x : TV) : World := (w.alloc (.cells #[.int .i64 x.kind, .string x.text, .int .i64 x.n, .slice x.sa x.sl x.sc, .slice x.aa x.al x.ac, .slice x.ka x.kl x.kc] 29)).alloc (.cells #[.int .i64 0, .string ⟨#[]⟩, .int .i64 0, .slice none 0 0, .slice none 0 0, .slice none 0 0] 29)
theorem two_below (w : World) (x : TV) : Below w.heap.size w (two w x) := by go_grown
theorem two_box (w : World) (x : TV) : Box (two w x) w.heap.size x := (Box.new w x 29).alloc _
theorem two_res (w : World) (x : TV) : Box (two w x) (w.heap.size + 1) zeroTV := by
  have := Box.new (w.alloc (.cells x.cells 29)) zeroTV 29
  simpa [zeroTV, TV.cells] using this
theorem two_size (w : World) (x : TV) : (two w x).heap.size = w.heap.size + 2 := by simp
theorem opens_later {x : TV} {v : Int} {eb mb cb : Nat} {b : Bool} {w W : World} (hb : T.opensK x.kind x.text.data.toList v = b) (hE : ExpAt w eb mb cb) (hw : Wee x) (h : Below w.heap.size w W) :
    Calls Tryz.prog 64 #[.pointer (some ⟨eb, 0, none⟩), .agg #[.int .i64 x.kind, .string x.text, .int .i64 x.n, .slice x.sa x.sl x.sc, .slice x.aa x.al x.ac, .slice x.ka x.kl x.kc], .int .i64 v] W fun e w' => e = .returned (.bool b) ∧ Below W.heap.size W w' := by
  have := opens_calls x v eb mb cb W (hE.below h hE.lt.1 hE.lt.2.1 hE.lt.2.2) hw.k0 hw.k1
  rw [hb] at this
  exact this

theorem other_of {t : T} (hn : NounAll t) : OtherAll t := by
  intro hv x B v eb mb cb w hr hB hE h12
  have HT := Lib.hid (fun W (h : Below w.heap.size w W) => twin_later hv.fits hr hB h)
  have HN := Lib.hid (fun W (h : Below w.heap.size w W) => noun_later hn hv hr hB hE h h12)
  have hop : T.opens t v = T.opensK x.kind x.text.data.toList v := by rw [T.opens, ← hr.kind, ← hr.text]
  have hkd := hr.kind
  have HW := Lib.hid hr.wee
  have HE := Lib.hid hE
  simp only [TV.val, TV.cells]
  have B0 := Lib.hid (two_below w x)
  have X0 := Lib.hid (two_box w x)
  have R0 := Lib.hid (two_res w x)
  have Z0 := Lib.hid (two_size w x)
  by_cases h20 : x.kind = 20
  · have HO := Lib.hid (show T.other t v = t from by rw [T.other, T.otherOf, if_pos (.inl (by rw [← hkd]; exact h20))])
    have hd : (x.kind == 20) = true := by simp [h20]
    clear hE hr hn hop hkd h20
    go_enter Tryz.func50, Tryz.ntmps50
    go_wp2_with fail
    refine (HT.out _ B0.out).mono ?_
    rintro e w1 ⟨z, F, rfl, hO, hF, hb1⟩
    have R1 : Box w1 (w.heap.size + 1) zeroTV := R0.out.below hb1 (by have := Z0.out; omega)
    obtain ⟨r0, r1, r2, r3, r4, r5, rf⟩ := R1
    simp only [zeroTV] at r0 r1 r2 r3 r4 r5
    have HB1 := Lib.hid (B0.out.trans (hb1.mono B0.out.size))
    have HO1 := Lib.hid hO
    have HF1 := Lib.hid (hF.mono (a' := w.heap.size + 1 + 1) (by have := Z0.out; omega) (Nat.le_refl _))
    clear hb1 hO hF
    simp only [TV.val, TV.cells]
    go_wp2_with fail
    refine bodyPost_ret (v := z.val) (by simp [results, Tryz.results50, TV.val, TV.cells, r0, r1, r2, r3, r4, r5, rf, go_sem]) rfl ?_
    rw [HO.out]
    exact new_ends' HO1.out HF1.out HB1.out (by omega) _ _ _ _ _ _
  have hd : (x.kind == 20) = false := by simp [h20]
  cases hb : T.opensK x.kind x.text.data.toList v
  · have HO := Lib.hid (show T.other t v = t from by rw [T.other, T.otherOf, if_pos (.inr (by rw [hop]; exact hb))])
    have HP := Lib.hid (fun W (h : Below w.heap.size w W) => opens_later hb HE.out HW.out h)
    clear hE hr hn hop hkd h20 hb
    go_enter Tryz.func50, Tryz.ntmps50
    go_wp2_with fail
    refine (HP.out _ B0.out).mono ?_
    rintro e w0 ⟨rfl, hb0⟩
    have X1 : Box w0 w.heap.size x := X0.out.below hb0 (by have := Z0.out; omega)
    have R1 := Lib.hid (R0.out.below hb0 (by have := Z0.out; omega))
    have HB0 := Lib.hid (B0.out.trans (hb0.mono B0.out.size))
    have hz0 : w.heap.size + 2 ≤ w0.heap.size := by have := hb0.size; have := Z0.out; omega
    obtain ⟨q0, q1, q2, q3, q4, q5, qf⟩ := X1
    clear hb0
    go_wp2_with fail
    refine (HT.out _ HB0.out).mono ?_
    rintro e w1 ⟨z, F, rfl, hO, hF, hb1⟩
    have R2 : Box w1 (w.heap.size + 1) zeroTV := R1.out.below hb1 (by omega)
    obtain ⟨r0, r1, r2, r3, r4, r5, rf⟩ := R2
    simp only [zeroTV] at r0 r1 r2 r3 r4 r5
    have HB1 := Lib.hid (HB0.out.trans (hb1.mono HB0.out.size))
    have HO1 := Lib.hid hO
    have HF1 := Lib.hid (hF.mono (a' := w.heap.size + 1 + 1) (by omega) (Nat.le_refl _))
    clear hb1 hO hF q0 q1 q2 q3 q4 q5 qf
    simp only [TV.val, TV.cells]
    go_wp2_with fail
    refine bodyPost_ret (v := z.val) (by simp [results, Tryz.results50, TV.val, TV.cells, r0, r1, r2, r3, r4, r5, rf, go_sem]) rfl ?_
    rw [HO.out]
    exact new_ends' HO1.out HF1.out HB1.out (by omega) _ _ _ _ _ _
  · have HO := Lib.hid (show T.other t v = T.defT v (T.noun t v) from by
      rw [T.other, T.otherOf, if_neg]
      rintro (h | h)
      · exact h20 (hkd.trans h)
      · rw [hop, hb] at h; cases h)
    have HP := Lib.hid (fun W (h : Below w.heap.size w W) => opens_later hb HE.out HW.out h)
    clear hE hr hn hop hkd h20 hb
    go_enter Tryz.func50, Tryz.ntmps50
    go_wp2_with fail
    refine (HP.out _ B0.out).mono ?_
    rintro e w0 ⟨rfl, hb0⟩
    have X1 : Box w0 w.heap.size x := X0.out.below hb0 (by have := Z0.out; omega)
    have R1 := Lib.hid (R0.out.below hb0 (by have := Z0.out; omega))
    have HB0 := Lib.hid (B0.out.trans (hb0.mono B0.out.size))
    have hz0 : w.heap.size + 2 ≤ w0.heap.size := by have := hb0.size; have := Z0.out; omega
    obtain ⟨q0, q1, q2, q3, q4, q5, qf⟩ := X1
    clear hb0
    go_wp2_with fail
    refine (HN.out _ HB0.out).mono ?_
    rintro e w1 ⟨z, F, rfl, hO, hF, hb1⟩
    have R2 := Lib.hid (R1.out.below hb1 (by omega))
    have HB1 := Lib.hid (HB0.out.trans (hb1.mono HB0.out.size))
    have HO1 := Lib.hid hO
    have HF1 := Lib.hid (hF.mono (a' := w.heap.size + 1 + 1) (by omega) (Nat.le_refl _))
    have hz1 : w.heap.size + 2 ≤ w1.heap.size := by have := hb1.size; omega
    have hD := definition_calls v z w1
    simp only [TV.val, TV.cells] at hD
    clear hb1 hO hF q0 q1 q2 q3 q4 q5 qf
    simp only [TV.val, TV.cells]
    go_wp2_with fail
    refine hD.mono ?_
    rintro e w2 ⟨g1, g2, g3, rfl, hg1, h12', h23, h3, ra, rb, rc, hb2⟩
    have R3 : Box w2 (w.heap.size + 1) zeroTV := R2.out.below hb2 (by omega)
    obtain ⟨r0, r1, r2, r3, r4, r5, rf⟩ := R3
    simp only [zeroTV] at r0 r1 r2 r3 r4 r5
    have HB2 := Lib.hid (HB1.out.trans (hb2.mono HB1.out.size))
    have HNW := Lib.hid (def_new HO1.out HF1.out hz1 hb2 hg1 h12' h23 h3 ra rb rc h12)
    clear hb2 hg1 h12' h23 h3 ra rb rc hD
    simp only [nodeTV]
    go_wp2_with fail
    refine bodyPost_ret (v := (nodeTV 23 v g3 1).val) (by simp [results, Tryz.results50, nodeTV, TV.val, TV.cells, r0, r1, r2, r3, r4, r5, rf, go_sem]) rfl ?_
    rw [HO.out]
    exact new_ends' HNW.out.1 HNW.out.2 HB2.out (by omega) _ _ _ _ _ _
end Go.Proofs.YtnnhbpgpkpbinaaGreat
