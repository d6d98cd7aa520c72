/- Package expand: Of. -/
import Derived.Test.YtnnhbpgpkpbinaaGreatMExp9
import Derived.Deep.RegionHeld3
set_option linter.unusedVariables false
set_option linter.unusedSimpArgs false
namespace Go.Proofs.YtnnhbpgpkpbinaaGreat
open Go.RowKit

def OfPost (t : T) (v : Int) (w : World) (e : Ending) (w' : World) : Prop :=
  ∃ y F, e = .returned (.tuple #[y.val, .int .i64 (T.ofE t v)]) ∧ Own w' (T.ofT t v) y F ∧ Fresh w.heap.size w'.heap.size F ∧ Below w.heap.size w w'
theorem zero_own (w : World) : Own w T.zeroT zeroTV [] := leaf_own w 0 ⟨#[]⟩ (by decide) (by decide) (by decide)
/-- a refusal -/
theorem of_refused {t : T} {v m : Int} {w w3 : World} {rb : Nat} (hm : T.ofE t v = m) (h0 : m ≠ 0) (hB : Below w.heap.size w w3) (hr : w.heap.size ≤ rb) (a0 a1 a2 a3 a4 a5 : Value) :
    OfPost t v w (.returned (.tuple #[zeroTV.val, .int .i64 m])) ((((((w3.setCell ⟨rb, 0, none⟩ a0).setCell ⟨rb, 1, none⟩ a1).setCell ⟨rb, 2, none⟩ a2).setCell ⟨rb, 3, none⟩ a3).setCell ⟨rb, 4, none⟩ a4).setCell ⟨rb, 5, none⟩ a5) := by
  refine ⟨zeroTV, [], by rw [hm], ?_, Fresh.nil _ _, ?_⟩
  · have e : T.ofT t v = T.zeroT := by rw [T.ofT, if_neg (by rw [hm]; exact h0)]
    rw [e]; exact zero_own _
  · iterate 6 (refine Below.setCell ?_ (by simpa using hr) _)
    exact hB
theorem of_done {t : T} {v : Int} {w w3 : World} {rb : Nat} {y : TV} {F : List Nat} (hm : T.ofE t v = 0) (hO : Own w3 (T.ofT t v) y F) (hF : Fresh (rb + 1) w3.heap.size F) (hB : Below w.heap.size w w3) (hr : w.heap.size ≤ rb) (a0 a1 a2 a3 a4 a5 : Value) :
    OfPost t v w (.returned (.tuple #[y.val, .int .i64 0])) ((((((w3.setCell ⟨rb, 0, none⟩ a0).setCell ⟨rb, 1, none⟩ a1).setCell ⟨rb, 2, none⟩ a2).setCell ⟨rb, 3, none⟩ a3).setCell ⟨rb, 4, none⟩ a4).setCell ⟨rb, 5, none⟩ a5) := by
  obtain ⟨y', F', he, h1, h2, h3⟩ := new_ends' hO hF hB hr a0 a1 a2 a3 a4 a5
  refine ⟨y, F, by rw [hm], ?_, ?_, h3⟩
  · refine Own.kept _ _ _ hO (fun b hb => ?_)
    have := hF.lo b hb
    iterate 6 (refine (Below.heap_setCell _ _ _ _ (fun e => by simp only at e; omega)).trans ?_)
    rfl
  · exact hF.mono (by omega) (by simp [World.setCell])
theorem may_later {t : T} {x : TV} {B : Nat} {m : Int} {w W : World} (hm : T.may t 3 = m) (hr : Rep w B t x) (hB : B ≤ w.heap.size) (hb : Below w.heap.size w W) :
    Calls Tryz.prog 13 #[.agg #[.int .i64 x.kind, .string x.text, .int .i64 x.n, .slice x.sa x.sl x.sc, .slice x.aa x.al x.ac, .slice x.ka x.kl x.kc], .int .i64 3] W fun e w' => e = .returned (.int .i64 m) ∧ Below W.heap.size W w' := by
  have := may_calls t x B 3 W (hr.below hb hB) (Nat.le_trans hB hb.size)
  unfold MayPost at this
  rw [hm] at this
  exact this
theorem size_later {t : T} {x : TV} {B : Nat} {w W : World} (hr : Rep w B t x) (hB : B ≤ w.heap.size) (hb : Below w.heap.size w W) :
    Calls Tryz.prog 14 #[.agg #[.int .i64 x.kind, .string x.text, .int .i64 x.n, .slice x.sa x.sl x.sc, .slice x.aa x.al x.ac, .slice x.ka x.kl x.kc]] W fun e w' => e = .returned (.tuple #[.int .i64 (t.sizeN : Int), .int .i64 (t.sizeD : Int)]) ∧ Below W.heap.size W w' :=
  size_calls t x B W (hr.below hb hB) (Nat.le_trans hB hb.size)

theorem verb_of_may {t : T} (hm : T.may t 3 = 0) : Verb t := by
  unfold T.may at hm
  split at hm
  · omega
  split at hm
  · omega
  rename_i hf
  split at hm
  · omega
  rename_i hg
  split at hm
  · omega
  rename_i hc
  exact ⟨by simpa using hc, by simpa using hg, by simpa using hf⟩

set_option maxRecDepth 100000 in
set_option maxHeartbeats 4000000 in
theorem of_calls (t : T) (x : TV) (B : Nat) (v : Int) (w : World) (hr : Rep w B t x) (hB : B ≤ w.heap.size) :
    Calls Tryz.prog 10 #[x.val, .int .i64 v] w (OfPost t v w) := by
  obtain ⟨m, hm⟩ : ∃ m, T.may t 3 = m := ⟨_, rfl⟩
  have HM := Lib.hid (fun W (h : Below w.heap.size w W) => may_later hm hr hB h)
  have B0 := Lib.hid (two_below w x)
  have X0 := Lib.hid (two_box w x)
  have R0 := Lib.hid (two_res w x)
  have Z0 := Lib.hid (two_size w x)
  simp only [TV.val, TV.cells]
  by_cases h0 : m = 0
  case neg =>
    have HE := Lib.hid (show T.ofE t v = m from by rw [T.ofE, if_pos (by rw [hm]; exact h0), hm])
    have H0 := Lib.hid h0
    have hd : (m != 0) = true := by simp [h0]
    clear h0 hm hr
    go_enter Tryz.func10, Tryz.ntmps10
    go_wp2_with fail
    refine (HM.out _ B0.out).mono ?_
    rintro e w1 ⟨rfl, hb1⟩
    have R1 : Box w1 (w.heap.size + 1) zeroTV := R0.out.below hb1 (by have := Z0.out; omega)
    obtain ⟨r0, r1, r2, r3, r4, r5, rf⟩ := R1
    simp only [zeroTV] at r0 r1 r2 r3 r4 r5
    have HB1 := Lib.hid (B0.out.trans (hb1.mono B0.out.size))
    clear hb1
    go_wp2_with fail
    refine bodyPost_ret (v := .tuple #[zeroTV.val, .int .i64 m]) (by simp [results, Tryz.results10, zeroTV, TV.val, TV.cells, r0, r1, r2, r3, r4, r5, rf, go_sem]) rfl ?_
    exact of_refused HE.out H0.out HB1.out (by omega) _ _ _ _ _ _
  subst h0
  by_cases h12 : v = 1 ∨ v = 2
  case neg =>
    have HE := Lib.hid (show T.ofE t v = 1 from by rw [T.ofE, if_neg (by rw [hm]; decide), if_pos (by omega)])
    have hd1 : (v != 1) = true := by simp; omega
    have hd2 : (v != 2) = true := by simp; omega
    clear h12 hm hr
    go_enter Tryz.func10, Tryz.ntmps10
    go_wp2_with fail
    refine (HM.out _ B0.out).mono ?_
    rintro e w1 ⟨rfl, hb1⟩
    have R1 : Box w1 (w.heap.size + 1) zeroTV := R0.out.below hb1 (by have := Z0.out; omega)
    obtain ⟨r0, r1, r2, r3, r4, r5, rf⟩ := R1
    simp only [zeroTV] at r0 r1 r2 r3 r4 r5
    have HB1 := Lib.hid (B0.out.trans (hb1.mono B0.out.size))
    clear hb1
    go_wp2_with fail
    refine bodyPost_ret (v := .tuple #[zeroTV.val, .int .i64 1]) (by simp [results, Tryz.results10, zeroTV, TV.val, TV.cells, r0, r1, r2, r3, r4, r5, rf, go_sem]) rfl ?_
    exact of_refused HE.out (by decide) HB1.out (by omega) _ _ _ _ _ _
  have HSZ := Lib.hid (fun W (h : Below w.heap.size w W) => size_later hr hB h)
  have H12 := Lib.hid h12
  by_cases hs : (320 : Int) < (t.sizeN : Int) ∨ (32 : Int) < (t.sizeD : Int)
  case pos =>
    have HE := Lib.hid (show T.ofE t v = 2 from by rw [T.ofE, if_neg (by rw [hm]; decide), if_neg (by omega), if_pos (by omega)])
    clear hm hr
    have hds : decide ((320 : Int) < (t.sizeN : Int)) = true ∨ (decide ((320 : Int) < (t.sizeN : Int)) = false ∧ decide ((32 : Int) < (t.sizeD : Int)) = true) := by
      by_cases h : (320 : Int) < (t.sizeN : Int)
      · exact .inl (by simpa using h)
      · exact .inr ⟨by simpa using h, by simp; omega⟩
    clear hs
    rcases h12 with rfl | rfl
    all_goals
      rcases hds with hd3 | ⟨hd3, hd4⟩
      all_goals
        go_enter Tryz.func10, Tryz.ntmps10
        go_wp2_with fail
        refine (HM.out _ B0.out).mono ?_
        rintro e w1 ⟨rfl, hb1⟩
        have X1 : Box w1 w.heap.size x := X0.out.below hb1 (by have := Z0.out; omega)
        have R1 := Lib.hid (R0.out.below hb1 (by have := Z0.out; omega))
        have hz1 : w.heap.size + 2 ≤ w1.heap.size := by have := hb1.size; have := Z0.out; omega
        have HB1 := Lib.hid (B0.out.trans (hb1.mono B0.out.size))
        obtain ⟨q0, q1, q2, q3, q4, q5, qf⟩ := X1
        clear hb1
        go_wp2_with fail
        refine (HSZ.out _ HB1.out).mono ?_
        rintro e w2 ⟨rfl, hb2⟩
        have R2 : Box w2 (w.heap.size + 1) zeroTV := R1.out.below hb2 (by omega)
        obtain ⟨r0, r1, r2, r3, r4, r5, rf⟩ := R2
        simp only [zeroTV] at r0 r1 r2 r3 r4 r5
        have HB2 := Lib.hid (HB1.out.trans (hb2.mono HB1.out.size))
        clear hb2 q0 q1 q2 q3 q4 q5 qf
        go_wp2_with fail
        refine bodyPost_ret (v := .tuple #[zeroTV.val, .int .i64 2]) (by simp [results, Tryz.results10, zeroTV, TV.val, TV.cells, r0, r1, r2, r3, r4, r5, rf, go_sem]) rfl ?_
        exact of_refused HE.out (by decide) HB2.out (by omega) _ _ _ _ _ _
  have HE := Lib.hid (show T.ofE t v = 0 from by rw [T.ofE, if_neg (by rw [hm]; decide), if_neg (by omega), if_neg (by omega)])
  have HOT := Lib.hid (show T.ofT t v = T.defT v (T.noun t v) from by rw [T.ofT, if_pos HE.out])
  have hV := verb_of_may hm
  have HN := Lib.hid (fun (W : World) (eb mb cb : Nat) (h : Below w.heap.size w W) (hE : ExpAt W eb mb cb) => noun_all t hV x B v eb mb cb W (hr.below h hB) (Nat.le_trans hB h.size) hE h12)
  simp only [TV.val, TV.cells] at HN
  have hs1 : decide ((320 : Int) < (t.sizeN : Int)) = false := by simp; omega
  have hs2 : decide ((32 : Int) < (t.sizeD : Int)) = false := by simp; omega
  have hvd : (v == 1) = true ∧ (v != 1) = false ∨ (v != 1) = true ∧ (v != 2) = false := by
    rcases h12 with rfl | rfl
    · exact .inl ⟨rfl, rfl⟩
    · exact .inr ⟨rfl, rfl⟩
  clear hm hr hV hs h12
  rcases hvd with ⟨_, hv1⟩ | ⟨hv1, hv2⟩
  all_goals
    go_enter Tryz.func10, Tryz.ntmps10
    go_wp2_with fail
    refine (HM.out _ B0.out).mono ?_
    rintro e w1 ⟨rfl, hb1⟩
    have X1 : Box w1 w.heap.size x := X0.out.below hb1 (by have := Z0.out; omega)
    have R1 := Lib.hid (R0.out.below hb1 (by have := Z0.out; omega))
    have hz1 : w.heap.size + 2 ≤ w1.heap.size := by have := hb1.size; have := Z0.out; omega
    have HB1 := Lib.hid (B0.out.trans (hb1.mono B0.out.size))
    have HX1 := Lib.hid X1
    obtain ⟨q0, q1, q2, q3, q4, q5, qf⟩ := X1
    clear hb1
    go_wp2_with fail
    refine (HSZ.out _ HB1.out).mono ?_
    rintro e w2 ⟨rfl, hb2⟩
    have X2 : Box w2 w.heap.size x := HX1.out.below hb2 (by omega)
    have R2 := Lib.hid (R1.out.below hb2 (by omega))
    have hz2 : w.heap.size + 2 ≤ w2.heap.size := by have := hb2.size; omega
    have HB2 := Lib.hid (HB1.out.trans (hb2.mono HB1.out.size))
    have HX2 := Lib.hid X2
    clear hb2 q0 q1 q2 q3 q4 q5 qf
    obtain ⟨q0, q1, q2, q3, q4, q5, qf⟩ := X2
    go_wp2_with fail
    go_region_held3 (fun w' => w'.cell? ⟨w.heap.size, 0, none⟩ = some (.int .i64 x.kind) ∧ w'.cell? ⟨w.heap.size, 1, none⟩ = some (.string x.text) ∧ w'.cell? ⟨w.heap.size, 2, none⟩ = some (.int .i64 x.n) ∧ w'.cell? ⟨w.heap.size, 3, none⟩ = some (.slice x.sa x.sl x.sc) ∧ w'.cell? ⟨w.heap.size, 4, none⟩ = some (.slice x.aa x.al x.ac) ∧ w'.cell? ⟨w.heap.size, 5, none⟩ = some (.slice x.ka x.kl x.kc))
      (first | (with_reducible exact S5.out) | (with_reducible exact S4.out) | (with_reducible exact S3.out) | go_keep | ((try dsimp only); (repeat' apply And.intro); (all_goals go_keep)))
      (first
        | (go_at_call 27; refine (begun_calls _).mono ?_; rintro e w3 ⟨eb, mb, cb, rfl, hE3, hb3, hl3⟩; have hb3' : Below w2.heap.size w2 w3 := (by first | exact hb3 | exact (Below.refl _ _).drew.trans hb3); have X3 : Box w3 w.heap.size x := HX2.out.below hb3' (by omega); have S3 := Lib.hid (And.intro X3.c0 (And.intro X3.c1 (And.intro X3.c2 (And.intro X3.c3 (And.intro X3.c4 X3.c5))))); have X3 := Lib.hid X3; have R3 := Lib.hid (R2.out.below hb3' (by omega)); have hB3 : Below w.heap.size w w3 := HB2.out.trans (hb3'.mono HB2.out.size); have hz3 : w.heap.size + 2 ≤ w3.heap.size := (by have := hb3'.size; omega); have HE3 := Lib.hid hE3; clear hb3 hb3' hE3 hl3)
        | (go_at_call 28; (refine (HN.out w3 eb mb cb hB3 HE3.out).mono ?_); rintro e w4 ⟨z, F, rfl, hO4, hF4, hb4⟩; simp only [TV.val, TV.cells]; have X4 : Box w4 w.heap.size x := X3.out.below hb4 (by omega); have S4 := Lib.hid (And.intro X4.c0 (And.intro X4.c1 (And.intro X4.c2 (And.intro X4.c3 (And.intro X4.c4 X4.c5))))); have X4 := Lib.hid X4; have R4 := Lib.hid (R3.out.below hb4 (by omega)); have hB4 : Below w.heap.size w w4 := hB3.trans (hb4.mono hB3.size); have hz4 : w.heap.size + 2 ≤ w4.heap.size := (by have := hb4.size; omega); have HO4 := Lib.hid hO4; have HF4 := Lib.hid (hF4.mono (a' := w.heap.size + 1 + 1) (by omega) (Nat.le_refl _)); clear hb4 hO4 hF4)
        | (go_at_call 26; refine (definition_calls v z _).mono ?_; rintro e w5 ⟨g1, g2, g3, rfl, hg1, h12', h23, h3, ra, rb, rc, hb5⟩; simp only [nodeTV, TV.val, TV.cells]; have X5 : Box w5 w.heap.size x := X4.out.below hb5 (by omega); have S5 := Lib.hid (And.intro X5.c0 (And.intro X5.c1 (And.intro X5.c2 (And.intro X5.c3 (And.intro X5.c4 X5.c5))))); clear X5; have R5 : Box w5 (w.heap.size + 1) zeroTV := R4.out.below hb5 (by omega); have hB5 : Below w.heap.size w w5 := hB4.trans (hb5.mono hB4.size); obtain ⟨r0, r1, r2, r3, r4, r5, rf⟩ := R5; simp only [zeroTV] at r0 r1 r2 r3 r4 r5; have HB5 := Lib.hid hb5; clear hb5))
    all_goals
      have HNW := Lib.hid (def_new HO4.out HF4.out hz4 HB5.out hg1 h12' h23 h3 ra rb rc H12.out)
      clear hg1 h12' h23 h3 ra rb rc
      go_wp2_with fail
      refine bodyPost_ret (v := .tuple #[(nodeTV 23 v g3 1).val, .int .i64 0]) (by simp [results, Tryz.results10, nodeTV, TV.val, TV.cells, r0, r1, r2, r3, r4, r5, rf, go_sem]) rfl ?_
      exact of_done HE.out (by rw [HOT.out]; exact HNW.out.1) HNW.out.2 hB5 (by omega) _ _ _ _ _ _
end Go.Proofs.YtnnhbpgpkpbinaaGreat
