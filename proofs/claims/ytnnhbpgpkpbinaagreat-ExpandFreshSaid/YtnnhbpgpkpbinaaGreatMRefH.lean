/- The document's answer: Copy of 13, Of of 25. The document's answer: Of of 25. -/
import Derived.Test.YtnnhbpgpkpbinaaGreatMRef21
import Derived.Test.YtnnhbpgpkpbinaaGreatMRefG
import Derived.Test.YtnnhbpgpkpbinaaGreatMExp10
set_option linter.unusedVariables false
set_option linter.unusedSimpArgs false
namespace Go.Proofs.YtnnhbpgpkpbinaaGreat
open Go.RowKit

def RCopyPost (t : T) (w : World) (e : Ending) (w' : World) : Prop := ∃ y, e = .returned (.tuple #[.agg #[.int .i64 y.kind, .string y.text, .int .i64 y.n, .slice y.sa y.sl y.sc, .slice y.aa y.al y.ac, .slice y.ka y.kl y.kc], .int .i64 0]) ∧ RepS w' (fun b => w.heap.size ≤ b ∧ b < w'.heap.size) t y ∧ Below w.heap.size w w'
set_option maxRecDepth 100000 in
set_option maxHeartbeats 1000000 in
theorem rcopy_calls (t : T) (x : TV) (B : Nat) (w : World) (hr : Rep w B t x) (hB : B ≤ w.heap.size) (hf : t.fits) :
    Calls Tryz.prog 24 #[.agg #[.int .i64 x.kind, .string x.text, .int .i64 x.n, .slice x.sa x.sl x.sc, .slice x.aa x.al x.ac, .slice x.ka x.kl x.kc]] w (RCopyPost t w) := by
  have hb0 := two_below w x
  have HROW := Lib.hid (row_calls t x B (two w x) (hr.below hb0 hB) (Nat.le_trans hB hb0.size))
  have HB0 := Lib.hid hb0
  have HX0 := Lib.hid (two_box w x)
  have HR0 := Lib.hid (two_res w x)
  have HO := Lib.hid (fun (W : World) (h : Below w.heap.size w W) => own_ref t hf.1 x B W (hr.below h hB) (Nat.le_trans hB h.size))
  have HF := Lib.hid hf
  simp only [TV.val, TV.cells] at HROW HO
  clear hr hb0 hf
  go_enter Tryz.func24, Tryz.ntmps24
  go_wp2_with fail
  refine HROW.out.mono ?_
  rintro e w1 (⟨hnf, _, _⟩ | ⟨_, l, xs, v, rfl, hm, _, _⟩)
  · exact absurd HF.out hnf
  have hb1 : Below (two w x).heap.size (two w x) w1 := hm.below
  have HB1 := Lib.hid (HB0.out.trans (hb1.mono HB0.out.size))
  have HX1 := HX0.out.below hb1 (by rw [two_size]; omega)
  have HR1 := Lib.hid (HR0.out.below hb1 (by rw [two_size]; omega))
  have hz1 := HR1.out.lt
  obtain ⟨q0, q1, q2, q3, q4, q5, qf⟩ := HX1
  clear hm hb1
  go_wp2_with fail
  refine (HO.out _ HB1.out).mono ?_
  rintro e w2 ⟨y, rfl, hr2, hb2⟩
  simp only [TV.val, TV.cells]
  have HB2 := Lib.hid (HB1.out.trans (hb2.mono HB1.out.size))
  have HR2 := Lib.hid (HR1.out.below hb2 hz1)
  have hz2 := hb2.size
  have HRY := Lib.hid (RepS.mono (S' := fun b => NoS b ∨ (w.heap.size + 2 ≤ b ∧ b < w2.heap.size)) hr2 (fun b h => h.imp id (fun h => ⟨by omega, h.2⟩)))
  clear hr2 hb2 q0 q1 q2 q3 q4 q5 qf
  go_upto_region 5 with fail
  have hba := (Below.refl w2.heap.size w2).alloc (Nat.le_refl _) (.cells y.cells 29)
  have hbox := Box.new w2 y 29
  have R3 := HR2.out.below hba (by omega)
  simp only [TV.cells] at hba hbox R3
  generalize w2.alloc (.cells #[.int .i64 y.kind, .string y.text, .int .i64 y.n, .slice y.sa y.sl y.sc, .slice y.aa y.al y.ac, .slice y.ka y.kl y.kc] 29) = w3 at hba hbox R3 ⊢
  have HB3 := Lib.hid (HB2.out.trans (hba.mono HB2.out.size))
  have HRY3 := Lib.hid (HRY.out.below hba (fun b h => by rcases h with h | h; exact False.elim h; exact h.2))
  have hz3 := hba.size
  clear hba
  obtain ⟨q0, q1, q2, q3, q4, q5, qf⟩ := hbox
  obtain ⟨r0, r1, r2, r3, r4, r5, rf⟩ := R3
  simp only [zeroTV] at r0 r1 r2 r3 r4 r5
  go_wp2_with fail
  refine bodyPost_ret (v := .tuple #[y.val, .int .i64 0]) (by simp [results, Tryz.results24, TV.val, TV.cells, r0, r1, r2, r3, r4, r5, rf, go_sem]) rfl ?_
  obtain ⟨y', e1, hry, hbb⟩ := pass_ends (S := NoS) (rb := w.heap.size + 1) (k := 2) (w2 := w3) noS_lt (HRY3.out.mono (fun b h => h.imp id (fun h => ⟨h.1, by omega⟩))) HB3.out (by omega) (by omega) (.int .i64 y.kind) (.string y.text) (.int .i64 y.n) (.slice y.sa y.sl y.sc) (.slice y.aa y.al y.ac) (.slice y.ka y.kl y.kc)
  have hyy : y = y' := by
    obtain ⟨⟩ := y
    obtain ⟨⟩ := y'
    simp only [TV.val, TV.cells, Ending.returned.injEq, Value.agg.injEq, Array.mk.injEq, List.cons.injEq, Value.int.injEq, Value.string.injEq, Value.slice.injEq, true_and, and_true] at e1
    obtain ⟨rfl, rfl, rfl, ⟨rfl, rfl, rfl⟩, ⟨rfl, rfl, rfl⟩, ⟨rfl, rfl, rfl⟩⟩ := e1
    rfl
  subst hyy
  exact ⟨y, rfl, hry.mono (fun b h => by rcases h with h | h; exact False.elim h; exact h), hbb⟩
end Go.Proofs.YtnnhbpgpkpbinaaGreat

namespace Go.Proofs.YtnnhbpgpkpbinaaGreat
open Go.RowKit

def ROfPost (t : T) (v : Int) (w : World) (e : Ending) (w' : World) : Prop := ∃ y, e = .returned (.tuple #[.agg #[.int .i64 y.kind, .string y.text, .int .i64 y.n, .slice y.sa y.sl y.sc, .slice y.aa y.al y.ac, .slice y.ka y.kl y.kc], .int .i64 (T.ofE t v)]) ∧ RepS w' (fun b => w.heap.size ≤ b ∧ b < w'.heap.size) (T.ofT t v) y ∧ Below w.heap.size w w'
theorem rep_zero (w : World) (S : Nat → Prop) : RepS w S T.zeroT zeroTV := by
  refine (RepS_iff _ _ _ _).2 ⟨⟨?_, ?_, ?_, ?_, ?_, ?_, ?_, ?_, ?_, ?_, ?_, ?_, ?_, ?_⟩, rfl, rfl, rfl, ⟨rfl, fun h => absurd h (by simp [zeroTV])⟩, ⟨rfl, fun h => absurd h (by simp [zeroTV])⟩, rfl, ?_⟩
  all_goals first | (intro j u h; simp [T.zeroT] at h; done) | (simp only [zeroTV]; (try unfold maxLen); omega) | decide
theorem rof_refused {t : T} {v m : Int} {w w1 : World} (hE : T.ofE t v = m) (hm : m ≠ 0) (hb : Below w.heap.size w w1) {rb : Nat} (hr : w.heap.size ≤ rb) (a0 a1 a2 a3 a4 a5 : Value) :
    ROfPost t v w (.returned (.tuple #[zeroTV.val, .int .i64 m])) ((((((w1.setCell ⟨rb, 0, none⟩ a0).setCell ⟨rb, 1, none⟩ a1).setCell ⟨rb, 2, none⟩ a2).setCell ⟨rb, 3, none⟩ a3).setCell ⟨rb, 4, none⟩ a4).setCell ⟨rb, 5, none⟩ a5) := by
  refine ⟨zeroTV, by rw [hE]; rfl, ?_, ?_⟩
  · rw [T.ofT, if_neg (by rw [hE]; exact hm)]
    exact rep_zero _ _
  · iterate 6 (refine Below.setCell ?_ (by simpa using hr) _)
    exact hb
theorem rof_done {t D : T} {v : Int} {u : TV} {w w7 : World} (hE : T.ofE t v = 0) (hO : T.ofT t v = D) (hr : RepS w7 (fun b => w.heap.size + 2 ≤ b ∧ b < w7.heap.size) D u) (hb : Below w.heap.size w w7) (a0 a1 a2 a3 a4 a5 : Value) :
    ROfPost t v w (.returned (.tuple #[u.val, .int .i64 0])) ((((((w7.setCell ⟨w.heap.size + 1, 0, none⟩ a0).setCell ⟨w.heap.size + 1, 1, none⟩ a1).setCell ⟨w.heap.size + 1, 2, none⟩ a2).setCell ⟨w.heap.size + 1, 3, none⟩ a3).setCell ⟨w.heap.size + 1, 4, none⟩ a4).setCell ⟨w.heap.size + 1, 5, none⟩ a5) := by
  refine ⟨u, by rw [hE]; rfl, ?_, ?_⟩
  · rw [hO]
    refine RepS.keep (fun b o h => cell_of_heap ?_) (fun b h => ⟨by omega, by simpa [World.setCell] using h.2⟩) _ _ hr
    have hbr : b ≠ w.heap.size + 1 := by omega
    iterate 6 (refine (Below.heap_setCell _ _ _ _ hbr).trans ?_)
    rfl
  · iterate 6 (refine Below.setCell ?_ (by simp) _)
    exact hb
theorem rmay_later {t : T} {x : TV} {B : Nat} {m : Int} {w W : World} (hm : T.may t 3 = m) (hr : Rep w B t x) (hB : B ≤ w.heap.size) (hb : Below w.heap.size w W) :
    Calls Tryz.prog 20 #[.agg #[.int .i64 x.kind, .string x.text, .int .i64 x.n, .slice x.sa x.sl x.sc, .slice x.aa x.al x.ac, .slice x.ka x.kl x.kc], .int .i64 3] W fun e w' => e = .returned (.int .i64 m) ∧ Below W.heap.size W w' := by
  have := rmay_calls t x B W (hr.below hb hB) (Nat.le_trans hB hb.size)
  rw [← hm]
  exact this
theorem rsize_later {t : T} {x : TV} {B : Nat} {w W : World} (hr : Rep w B t x) (hB : B ≤ w.heap.size) (hb : Below w.heap.size w W) :
    Calls Tryz.prog 21 #[.agg #[.int .i64 x.kind, .string x.text, .int .i64 x.n, .slice x.sa x.sl x.sc, .slice x.aa x.al x.ac, .slice x.ka x.kl x.kc]] W fun e w' => e = .returned (.tuple #[.int .i64 t.sizeN, .int .i64 t.sizeD]) ∧ Below W.heap.size W w' :=
  rsize_calls t x B W (hr.below hb hB) (Nat.le_trans hB hb.size)

set_option maxRecDepth 100000 in
set_option maxHeartbeats 2000000 in
theorem rof_calls (t : T) (x : TV) (B : Nat) (v : Int) (w : World) (hr : Rep w B t x) (hB : B ≤ w.heap.size) :
    Calls Tryz.prog 7 #[.agg #[.int .i64 x.kind, .string x.text, .int .i64 x.n, .slice x.sa x.sl x.sc, .slice x.aa x.al x.ac, .slice x.ka x.kl x.kc], .int .i64 v] w (ROfPost t v w) := by
  have B0 := Lib.hid (two_below w x)
  have X0 := Lib.hid (two_box w x)
  have R0 := Lib.hid (two_res w x)
  obtain ⟨m, hm⟩ : ∃ m, T.may t 3 = m := ⟨_, rfl⟩
  have HM := Lib.hid (fun W (h : Below w.heap.size w W) => rmay_later hm hr hB h)
  by_cases hm0 : m = 0
  case neg =>
    have HE := Lib.hid (show T.ofE t v = m from by rw [T.ofE, if_pos (by rw [hm]; exact hm0), hm])
    have HM0 := Lib.hid hm0
    have hd : (m != 0) = true := by simp [hm0]
    clear hm hm0 hr
    go_enter Tryz.func7, Tryz.ntmps7
    go_wp2_with fail
    refine (HM.out _ B0.out).mono ?_
    rintro e w1 ⟨rfl, hb1⟩
    have R1 : Box w1 (w.heap.size + 1) zeroTV := R0.out.below hb1 (by simp only [World.size_alloc]; omega)
    obtain ⟨r0, r1, r2, r3, r4, r5, rf⟩ := R1
    simp only [zeroTV] at r0 r1 r2 r3 r4 r5
    have HB1 := Lib.hid (B0.out.trans (hb1.mono B0.out.size))
    clear hb1
    go_wp2_with fail
    refine bodyPost_ret (v := .tuple #[zeroTV.val, .int .i64 m]) (by simp [results, Tryz.results7, zeroTV, TV.val, TV.cells, r0, r1, r2, r3, r4, r5, rf, go_sem]) rfl ?_
    with_reducible exact rof_refused (rb := w.heap.size + 1) HE.out HM0.out HB1.out (by omega) _ _ _ _ _ _
  subst hm0
  by_cases h12 : v = 1 ∨ v = 2
  case neg =>
    have HE := Lib.hid (show T.ofE t v = 1 from by rw [T.ofE, if_neg (by rw [hm]; decide), if_pos (by omega)])
    have hd1 : (v != 1) = true := by simp; omega
    have hd2 : (v != 2) = true := by simp; omega
    clear h12 hm hr
    go_enter Tryz.func7, Tryz.ntmps7
    go_wp2_with fail
    refine (HM.out _ B0.out).mono ?_
    rintro e w1 ⟨rfl, hb1⟩
    have R1 : Box w1 (w.heap.size + 1) zeroTV := R0.out.below hb1 (by simp only [World.size_alloc]; omega)
    obtain ⟨r0, r1, r2, r3, r4, r5, rf⟩ := R1
    simp only [zeroTV] at r0 r1 r2 r3 r4 r5
    have HB1 := Lib.hid (B0.out.trans (hb1.mono B0.out.size))
    clear hb1
    go_wp2_with fail
    refine bodyPost_ret (v := .tuple #[zeroTV.val, .int .i64 1]) (by simp [results, Tryz.results7, zeroTV, TV.val, TV.cells, r0, r1, r2, r3, r4, r5, rf, go_sem]) rfl ?_
    with_reducible exact rof_refused (rb := w.heap.size + 1) HE.out (by decide) HB1.out (by omega) _ _ _ _ _ _
  have HSZ := Lib.hid (fun W (h : Below w.heap.size w W) => rsize_later hr hB h)
  have H12 := Lib.hid h12
  by_cases hs : (320 : Int) < (t.sizeN : Int) ∨ (32 : Int) < (t.sizeD : Int)
  case pos =>
    have HE := Lib.hid (show T.ofE t v = 2 from by rw [T.ofE, if_neg (by rw [hm]; decide), if_neg (by omega), if_pos (by omega)])
    clear hm hr
    have hds : decide ((320 : Int) < (t.sizeN : Int)) = true ∨ (decide ((320 : Int) < (t.sizeN : Int)) = false ∧ decide ((32 : Int) < (t.sizeD : Int)) = true) := by
      by_cases h : (320 : Int) < (t.sizeN : Int)
      · exact .inl (by simpa using h)
      · exact .inr ⟨by simpa using h, by simp; omega⟩
    clear hs
    rcases h12 with rfl | rfl
    all_goals
      rcases hds with hd3 | ⟨hd3, hd4⟩
      all_goals
        go_enter Tryz.func7, Tryz.ntmps7
        go_wp2_with fail
        refine (HM.out _ B0.out).mono ?_
        rintro e w1 ⟨rfl, hb1⟩
        have X1 : Box w1 w.heap.size x := X0.out.below hb1 (by simp only [World.size_alloc]; omega)
        have R1 := Lib.hid (R0.out.below hb1 (by simp only [World.size_alloc]; omega))
        have hz1 : w.heap.size + 2 ≤ w1.heap.size := by have := hb1.size; simp only [World.size_alloc] at this; omega
        have HB1 := Lib.hid (B0.out.trans (hb1.mono B0.out.size))
        obtain ⟨q0, q1, q2, q3, q4, q5, qf⟩ := X1
        clear hb1
        go_wp2_with fail
        refine (HSZ.out _ HB1.out).mono ?_
        rintro e w2 ⟨rfl, hb2⟩
        have R2 : Box w2 (w.heap.size + 1) zeroTV := R1.out.below hb2 (by omega)
        obtain ⟨r0, r1, r2, r3, r4, r5, rf⟩ := R2
        simp only [zeroTV] at r0 r1 r2 r3 r4 r5
        have HB2 := Lib.hid (HB1.out.trans (hb2.mono HB1.out.size))
        clear hb2 q0 q1 q2 q3 q4 q5 qf
        go_wp2_with fail
        refine bodyPost_ret (v := .tuple #[zeroTV.val, .int .i64 2]) (by simp [results, Tryz.results7, zeroTV, TV.val, TV.cells, r0, r1, r2, r3, r4, r5, rf, go_sem]) rfl ?_
        with_reducible exact rof_refused (rb := w.heap.size + 1) HE.out (by decide) HB2.out (by omega) _ _ _ _ _ _
  have HE := Lib.hid (show T.ofE t v = 0 from by rw [T.ofE, if_neg (by rw [hm]; decide), if_neg (by omega), if_neg (by omega)])
  have HOT := Lib.hid (show T.ofT t v = T.defT v (T.noun t v) from by rw [T.ofT, if_pos HE.out])
  have HFT := Lib.hid (show (T.defT v (T.noun t v)).fits from by rw [← HOT.out]; exact (verb_of_may (T.of_ok t v HE.out).1).fits)
  have hV := verb_of_may hm
  have HN := Lib.hid (fun (W : World) (h : Below w.heap.size w W) => noun_ref t hV x v W (fun b => b < B) (fun b hb => Nat.lt_of_lt_of_le hb (Nat.le_trans hB h.size)) ((Rep.toS t x (hr.below h hB))) h12)
  simp only [TV.val, TV.cells] at HN
  have hs1 : decide ((320 : Int) < (t.sizeN : Int)) = false := by simp; omega
  have hs2 : decide ((32 : Int) < (t.sizeD : Int)) = false := by simp; omega
  have hvd : (v == 1) = true ∧ (v != 1) = false ∨ (v != 1) = true ∧ (v != 2) = false := by
    rcases h12 with rfl | rfl
    · exact .inl ⟨rfl, rfl⟩
    · exact .inr ⟨rfl, rfl⟩
  clear hm hr hV hs h12
  rcases hvd with ⟨_, hv1⟩ | ⟨hv1, hv2⟩
  all_goals
    go_enter Tryz.func7, Tryz.ntmps7
    go_wp2_with fail
    refine (HM.out _ B0.out).mono ?_
    rintro e w1 ⟨rfl, hb1⟩
    have X1 : Box w1 w.heap.size x := X0.out.below hb1 (by simp only [World.size_alloc]; omega)
    have R1 := Lib.hid (R0.out.below hb1 (by simp only [World.size_alloc]; omega))
    have hz1 : w.heap.size + 2 ≤ w1.heap.size := by have := hb1.size; simp only [World.size_alloc] at this; omega
    have HB1 := Lib.hid (B0.out.trans (hb1.mono B0.out.size))
    have HX1 := Lib.hid X1
    obtain ⟨q0, q1, q2, q3, q4, q5, qf⟩ := X1
    clear hb1
    go_wp2_with fail
    refine (HSZ.out _ HB1.out).mono ?_
    rintro e w2 ⟨rfl, hb2⟩
    have X2 : Box w2 w.heap.size x := HX1.out.below hb2 (by omega)
    have R2 := Lib.hid (R1.out.below hb2 (by omega))
    have hz2 : w.heap.size + 2 ≤ w2.heap.size := by have := hb2.size; omega
    have HB2 := Lib.hid (HB1.out.trans (hb2.mono HB1.out.size))
    clear hb2 q0 q1 q2 q3 q4 q5 qf
    obtain ⟨q0, q1, q2, q3, q4, q5, qf⟩ := X2
    go_wp2_with fail
    refine (HN.out _ HB2.out).mono ?_
    rintro e w3 ⟨y, rfl, hr3, hb3⟩
    have R3 := Lib.hid (R2.out.below hb3 (by omega))
    have HB3 := Lib.hid (HB2.out.trans (hb3.mono HB2.out.size))
    have hz3 : w.heap.size + 2 ≤ w3.heap.size := by have := hb3.size; omega
    have HS3 := Lib.hid (Adds.lt (w := w2) (w' := w3) (S := fun b => b < B) (fun b hb => by have := HB2.out.size; omega) hb3.size)
    have HD := Lib.hid (rdefined_calls v (T.noun t v) y w3 _ HS3.out H12.out hr3)
    simp only [TV.val, TV.cells] at HD ⊢
    clear hr3 hb3 q0 q1 q2 q3 q4 q5 qf
    go_wp2_with fail
    refine HD.out.mono ?_
    rintro e w4 ⟨z, rfl, hr4, hb4⟩
    simp only [TV.val, TV.cells]
    have R4 := Lib.hid (R3.out.below hb4 (by omega))
    have HB4 := Lib.hid (HB3.out.trans (hb4.mono HB3.out.size))
    have hz4 := hb4.size
    have HR4 := Lib.hid (hr4.rep (Adds.lt HS3.out hb4.size))
    clear hr4 hb4
    go_upto_region 10 with fail
    have hba := (Below.refl w4.heap.size w4).alloc (Nat.le_refl _) (.cells z.cells 29)
    have hbox := Box.new w4 z 29
    have R5 := Lib.hid (R4.out.below hba (by omega))
    simp only [TV.cells] at hba hbox R5
    generalize w4.alloc (.cells #[.int .i64 z.kind, .string z.text, .int .i64 z.n, .slice z.sa z.sl z.sc, .slice z.aa z.al z.ac, .slice z.ka z.kl z.kc] 29) = w5 at hba hbox R5 ⊢
    have HB5 := Lib.hid (HB4.out.trans (hba.mono HB4.out.size))
    have hz5 := hbox.lt
    have HC := Lib.hid (rcopy_calls _ z w4.heap.size w5 (HR4.out.below hba (Nat.le_refl _)) hba.size HFT.out)
    clear hba
    obtain ⟨q0, q1, q2, q3, q4, q5, qf⟩ := hbox
    go_wp2_with fail
    refine HC.out.mono ?_
    rintro e w6 ⟨u, rfl, hr6, hb6⟩
    have R6 := Lib.hid (R5.out.below hb6 (by omega))
    have HB6 := Lib.hid (HB5.out.trans (hb6.mono HB5.out.size))
    have hz6 := hb6.size
    have HR6 := Lib.hid hr6
    clear hr6 hb6 q0 q1 q2 q3 q4 q5 qf
    go_upto_region 11 with fail
    have hba := (Below.refl w6.heap.size w6).alloc (Nat.le_refl _) (.cells u.cells 29)
    have hbox := Box.new w6 u 29
    have R7 := R6.out.below hba (by omega)
    have HR7 := Lib.hid (HR6.out.below hba (fun b h => h.2))
    have HB7 := Lib.hid (HB6.out.trans (hba.mono HB6.out.size))
    have hz7 := hba.size
    simp only [TV.cells] at hba hbox R7 HR7 HB7 hz7
    generalize w6.alloc (.cells #[.int .i64 u.kind, .string u.text, .int .i64 u.n, .slice u.sa u.sl u.sc, .slice u.aa u.al u.ac, .slice u.ka u.kl u.kc] 29) = w7 at hba hbox R7 HR7 HB7 hz7 ⊢
    obtain ⟨q0, q1, q2, q3, q4, q5, qf⟩ := hbox
    obtain ⟨r0, r1, r2, r3, r4, r5, rf⟩ := R7
    simp only [zeroTV] at r0 r1 r2 r3 r4 r5
    clear hba
    go_wp2_with fail
    refine bodyPost_ret (v := .tuple #[u.val, .int .i64 0]) (by simp [results, Tryz.results7, TV.val, TV.cells, r0, r1, r2, r3, r4, r5, rf, go_sem]) rfl ?_
    with_reducible exact rof_done HE.out HOT.out (HR7.out.mono (fun b h => ⟨by omega, by omega⟩)) HB7.out _ _ _ _ _ _
end Go.Proofs.YtnnhbpgpkpbinaaGreat
