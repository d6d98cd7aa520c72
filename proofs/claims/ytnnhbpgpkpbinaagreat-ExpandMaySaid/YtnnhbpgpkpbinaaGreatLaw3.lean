/- The law ExpandMay: its walk, where the term may be. -/
import Derived.Test.YtnnhbpgpkpbinaaGreatLaw2
namespace Go.Proofs.YtnnhbpgpkpbinaaGreat
open Go.RowKit

set_option maxRecDepth 100000 in
set_option maxHeartbeats 8000000 in
theorem expandMay_long (t : T) (x : TV) (B : Nat) (two? : Bool) (w : World) (hr : Rep w B t x) (hB : B ≤ w.heap.size) (hm : T.may t 3 = 0) (hs : 320 < t.sizeN ∨ 32 < t.sizeD) :
    Calls Tryz.prog 4 #[x.val, .bool two?] w fun e w' => e = .returned (.bool true) ∧ Below w.heap.size w w' := by
  have hE : ∀ v, v = 1 ∨ v = 2 → T.ofE t v = 2 := fun v h => by rw [T.ofE, if_neg (by rw [hm]; decide), if_neg (by omega), if_pos (by omega)]
  have hds : decide ((320 : Int) < (t.sizeN : Int)) = true ∨ (decide ((320 : Int) < (t.sizeN : Int)) = false ∧ decide ((32 : Int) < (t.sizeD : Int)) = true) := by
    by_cases h : (320 : Int) < (t.sizeN : Int)
    · exact .inl (by simpa using h)
    · exact .inr ⟨by simpa using h, by simp; omega⟩
  clear hs
  have HO := Lib.hid (fun (v : Int) (h12 : v = 1 ∨ v = 2) (W : World) (h : Below w.heap.size w W) => of_later (hE v h12) hr hB h)
  have HM := Lib.hid (fun (W : World) (h : Below w.heap.size w W) => may_later hm hr hB h)
  have HSZ := Lib.hid (fun (W : World) (h : Below w.heap.size w W) => size_later hr hB h)
  have HEV := Lib.hid hE
  simp only [TV.val, TV.cells]
  have X0 := Lib.hid (Box.new w x 29)
  have B0 := Lib.hid ((Below.refl w.heap.size w).alloc (Nat.le_refl _) (.cells x.cells 29))
  clear hr hm hE
  cases two?
  all_goals
    go_enter Tryz.func4, Tryz.ntmps4
    go_wp2_with fail
    refine (begun25_calls _).mono ?_
    rintro e w1 ⟨rfl, hb1⟩
    have X1 : Box w1 w.heap.size x := X0.out.below hb1 (by simp)
    have HB1 : Hid (Below w.heap.size w w1) := Lib.hid (B0.out.trans (hb1.mono (by simp)))
    have HX1 := Lib.hid X1
    have hz1 := X1.lt
    obtain ⟨q0, q1, q2, q3, q4, q5, qf⟩ := X1
    clear hb1
    go_wp2_with fail
    refine (HO.out _ (by decide) _ HB1.out).mono ?_
    rintro e w2 ⟨y, rfl, hry, hb2⟩
    rw [ofT_zero (by rw [HEV.out _ (by decide)]; decide)] at hry
    have HYK := Lib.hid (show y.kind = 0 from hry.kind)
    have X2 := HX1.out.below hb2 hz1
    have HB2 := Lib.hid (HB1.out.trans (hb2.mono HB1.out.size))
    clear hry q0 q1 q2 q3 q4 q5 qf hb2
    go_upto_region 7 with fail
    have hba := (Below.refl w2.heap.size w2).alloc (Nat.le_refl _) (.cells y.cells 29)
    have hbox := Box.new w2 y 29
    have X3 := X2.below hba X2.lt
    skip
    simp only [TV.cells] at hba hbox X3
    generalize w2.alloc (.cells #[.int .i64 y.kind, .string y.text, .int .i64 y.n, .slice y.sa y.sl y.sc, .slice y.aa y.al y.ac, .slice y.ka y.kl y.kc] 29) = w3 at hba hbox X3 ⊢
    have HB3 := Lib.hid (HB2.out.trans (hba.mono HB2.out.size))
    have HY3 := Lib.hid hbox
    have HX3 := Lib.hid X3
    have hz3 := hbox.lt
    have hz3x := X3.lt
    skip
    obtain ⟨q0, q1, q2, q3, q4, q5, qf⟩ := X3
    clear hba hbox X2
    go_wp2_with fail
    refine (HM.out _ HB3.out).mono ?_
    rintro e w4 ⟨rfl, hb4⟩
    have Y4 := Lib.hid (HY3.out.below hb4 hz3)
    have X4 := HX3.out.below hb4 hz3x
    have HX4 := Lib.hid X4
    have HB4 := Lib.hid (HB3.out.trans (hb4.mono HB3.out.size))
    have hz4 := Y4.out.lt
    skip
    clear hb4 q0 q1 q2 q3 q4 q5 qf
    obtain ⟨q0, q1, q2, q3, q4, q5, qf⟩ := X4
    go_wp2_with fail
    refine (HSZ.out _ HB4.out).mono ?_
    rintro e w5 ⟨rfl, hb5⟩
    have Y5 := Y4.out.below hb5 hz4
    have HB5 := Lib.hid (HB4.out.trans (hb5.mono HB4.out.size))
    have hz5 := Y5.lt
    skip
    clear hb5 q0 q1 q2 q3 q4 q5 qf
    obtain ⟨p0, p1, p2, p3, p4, p5, pf⟩ := Y5
    rw [HYK.out] at p0
    rcases hds with hd3 | ⟨hd3, hd4⟩
    all_goals
      go_wp2_with fail
      go_ret
      exact ⟨rfl, HB5.out⟩

theorem rep_facts {t : T} {y : TV} {w : World} {B : Nat} {v : Int} (_hr : Rep w B (T.ofT t v) y) (h : ∀ v : Int, v = 1 ∨ v = 2 → T.may (T.ofT t v) 3 = 0 ∧ (T.ofT t v).nodes < 6 * t.nodes + 4) (h12 : v = 1 ∨ v = 2) (hN : t.sizeN = t.nodes) :
    T.may (T.ofT t v) 3 = 0 ∧ ((T.ofT t v).sizeN : Int) < 6 * (t.sizeN : Int) + 4 := by
  obtain ⟨h1, h2⟩ := h v h12
  have hf := (verb_of_may h1).fits
  refine ⟨h1, ?_⟩
  rw [T.sizeN, if_pos hf, hN]
  omega
set_option maxRecDepth 100000 in
set_option maxHeartbeats 8000000 in
theorem expandMay_done (t : T) (x : TV) (B : Nat) (two? : Bool) (w : World) (hr : Rep w B t x) (hB : B ≤ w.heap.size) (hm : T.may t 3 = 0) (hs : ¬ (320 < t.sizeN ∨ 32 < t.sizeD)) :
    Calls Tryz.prog 4 #[x.val, .bool two?] w fun e w' => e = .returned (.bool true) ∧ Below w.heap.size w w' := by
  have hE : ∀ v, v = 1 ∨ v = 2 → T.ofE t v = 0 := fun v h => by rw [T.ofE, if_neg (by rw [hm]; decide), if_neg (by omega), if_neg (by omega)]
  have hd3 : decide ((320 : Int) < (t.sizeN : Int)) = false := by simp; omega
  have hd4 : decide ((32 : Int) < (t.sizeD : Int)) = false := by simp; omega
  have hV := verb_of_may hm
  have hN : t.sizeN = t.nodes := by rw [T.sizeN, if_pos hV.fits]
  have HN := Lib.hid hN
  have hn320 : t.sizeN ≤ 320 := by omega
  have HK := Lib.hid (fun (v : Int) (h : v = 1 ∨ v = 2) => T.of_ok t v (hE v h))
  clear hs hV hN
  have HO := Lib.hid (fun (v : Int) (h12 : v = 1 ∨ v = 2) (W : World) (h : Below w.heap.size w W) => of_later (hE v h12) hr hB h)
  have HM := Lib.hid (fun (W : World) (h : Below w.heap.size w W) => may_later hm hr hB h)
  have HSZ := Lib.hid (fun (W : World) (h : Below w.heap.size w W) => size_later hr hB h)
  have HEV := Lib.hid hE
  simp only [TV.val, TV.cells]
  have X0 := Lib.hid (Box.new w x 29)
  have B0 := Lib.hid ((Below.refl w.heap.size w).alloc (Nat.le_refl _) (.cells x.cells 29))
  clear hr hm hE
  cases two?
  all_goals
    go_enter Tryz.func4, Tryz.ntmps4
    go_wp2_with fail
    refine (begun25_calls _).mono ?_
    rintro e w1 ⟨rfl, hb1⟩
    have X1 : Box w1 w.heap.size x := X0.out.below hb1 (by simp)
    have HB1 : Hid (Below w.heap.size w w1) := Lib.hid (B0.out.trans (hb1.mono (by simp)))
    have HX1 := Lib.hid X1
    have hz1 := X1.lt
    obtain ⟨q0, q1, q2, q3, q4, q5, qf⟩ := X1
    clear hb1
    go_wp2_with fail
    refine (HO.out _ (by decide) _ HB1.out).mono ?_
    rintro e w2 ⟨y, rfl, hry, hb2⟩
    have HRY := Lib.hid hry
    have HKY := Lib.hid (rep_facts hry HK.out (by decide) HN.out)
    rw [ofT_def (HEV.out _ (by decide))] at hry
    obtain ⟨b1, o1, c1, b2, o2, c2, b3, o3, c3, hch⟩ := chain_of hry
    have HCH := Lib.hid hch
    clear hch
    have X2 := HX1.out.below hb2 hz1
    have HB2 := Lib.hid (HB1.out.trans (hb2.mono HB1.out.size))
    clear hry q0 q1 q2 q3 q4 q5 qf hb2
    go_upto_region 7 with fail
    have hba := (Below.refl w2.heap.size w2).alloc (Nat.le_refl _) (.cells y.cells 29)
    have hbox := Box.new w2 y 29
    have X3 := X2.below hba X2.lt
    have HCHa := Lib.hid (HCH.out.later hba (Nat.le_refl _))
    have HRYa := Lib.hid (HRY.out.below hba (Nat.le_refl _))
    simp only [TV.cells] at HCHa HRYa
    have hba3 := hba
    clear hba3
    simp only [TV.cells] at hba hbox X3
    generalize w2.alloc (.cells #[.int .i64 y.kind, .string y.text, .int .i64 y.n, .slice y.sa y.sl y.sc, .slice y.aa y.al y.ac, .slice y.ka y.kl y.kc] 29) = w3 at hba hbox X3 HCHa HRYa ⊢
    have HB3 := Lib.hid (HB2.out.trans (hba.mono HB2.out.size))
    have HY3 := Lib.hid hbox
    have HX3 := Lib.hid X3
    have hz3 := hbox.lt
    have hz3x := X3.lt
    skip
    obtain ⟨q0, q1, q2, q3, q4, q5, qf⟩ := X3
    clear hba hbox X2
    go_wp2_with fail
    refine (HM.out _ HB3.out).mono ?_
    rintro e w4 ⟨rfl, hb4⟩
    have Y4 := Lib.hid (HY3.out.below hb4 hz3)
    have X4 := HX3.out.below hb4 hz3x
    have HX4 := Lib.hid X4
    have HB4 := Lib.hid (HB3.out.trans (hb4.mono HB3.out.size))
    have hz4 := Y4.out.lt
    have HCH4 := Lib.hid (HCHa.out.later hb4 (by omega))
    have HRY4 := Lib.hid (HRYa.out.below hb4 (by omega))
    clear hb4 q0 q1 q2 q3 q4 q5 qf
    obtain ⟨q0, q1, q2, q3, q4, q5, qf⟩ := X4
    go_wp2_with fail
    refine (HSZ.out _ HB4.out).mono ?_
    rintro e w5 ⟨rfl, hb5⟩
    have Y5 := Y4.out.below hb5 hz4
    have HB5 := Lib.hid (HB4.out.trans (hb5.mono HB4.out.size))
    have hz5 := Y5.lt
    have HCH5 := Lib.hid (HCH4.out.later hb5 (by omega))
    have HRY5 := Lib.hid (HRY4.out.below hb5 (by omega))
    clear hb5 q0 q1 q2 q3 q4 q5 qf
    have HY5 := Lib.hid Y5
    obtain ⟨p0, p1, p2, p3, p4, p5, pf⟩ := Y5
    have hlt := HKY.out.2
    go_wp2_with fail
    refine (size_later HRY5.out (Nat.le_of_lt hz5) (Below.refl _ _)).mono ?_
    rintro e w6 ⟨rfl, hb6⟩
    have Y6 := HY5.out.below hb6 hz5
    have HB6 := Lib.hid (HB5.out.trans (hb6.mono HB5.out.size))
    have hz6 := Y6.lt
    have HCH6 := Lib.hid (HCH5.out.later hb6 (by omega))
    have HRY6 := Lib.hid (HRY5.out.below hb6 (by omega))
    have HY6 := Lib.hid Y6
    clear hb6 p0 p1 p2 p3 p4 p5 pf
    obtain ⟨p0, p1, p2, p3, p4, p5, pf⟩ := Y6
    go_wp2_with fail
    refine (may_later HKY.out.1 HRY6.out (Nat.le_of_lt hz6) (Below.refl _ _)).mono ?_
    rintro e w7 ⟨rfl, hb7⟩
    have Y7 := HY6.out.below hb7 hz6
    have HB7 := Lib.hid (HB6.out.trans (hb7.mono HB6.out.size))
    have hch7 := HCH6.out.later hb7 (by omega)
    clear hb7 p0 p1 p2 p3 p4 p5 pf
    obtain ⟨p0, p1, p2, p3, p4, p5, pf⟩ := Y7
    obtain ⟨s0, s1, s2, s3, s4, s5, s6, s7, s8, _, _, _⟩ := hch7
    rw [s0] at p0
    rw [s1] at p2
    rw [s2, s3] at p5
    clear s0 s1 s2 s3 s4
    go_wp2_with fail
    go_ret
    exact ⟨rfl, HB7.out⟩

/-- THE WALK OF THE LAW. -/
theorem expandMay_calls (t : T) (x : TV) (B : Nat) (b : Bool) (w : World) (hr : Rep w B t x) (hB : B ≤ w.heap.size) :
    Calls Tryz.prog 4 #[x.val, .bool b] w fun e w' => e = .returned (.bool true) ∧ Below w.heap.size w w' := by
  by_cases h0 : T.may t 3 = 0
  · by_cases hs : 320 < t.sizeN ∨ 32 < t.sizeD
    · exact expandMay_long t x B b w hr hB h0 hs
    · exact expandMay_done t x B b w hr hB h0 hs
  · exact expandMay_refused t x B b w _ hr hB rfl h0
end Go.Proofs.YtnnhbpgpkpbinaaGreat
