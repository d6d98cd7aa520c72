/- The law ExpandMay: its walk. -/
import Derived.Test.YtnnhbpgpkpbinaaGreatLaw1
namespace Go.Proofs.YtnnhbpgpkpbinaaGreat
open Go.RowKit

set_option maxRecDepth 100000 in
set_option maxHeartbeats 4000000 in
theorem expandMay_refused (t : T) (x : TV) (B : Nat) (two? : Bool) (w : World) (m : Int) (hr : Rep w B t x) (hB : B ≤ w.heap.size) (hm : T.may t 3 = m) (h0 : m ≠ 0) :
    Calls Tryz.prog 4 #[x.val, .bool two?] w fun e w' => e = .returned (.bool true) ∧ Below w.heap.size w w' := by
  have hE : ∀ v, T.ofE t v = m := fun v => by rw [T.ofE, if_pos (by rw [hm]; exact h0), hm]
  have HO := Lib.hid (fun (v : Int) (W : World) (h : Below w.heap.size w W) => of_later (hE v) hr hB h)
  have HM := Lib.hid (fun (W : World) (h : Below w.heap.size w W) => may_later hm hr hB h)
  have HZ := Lib.hid (fun v : Int => ofT_zero (t := t) (v := v) (by rw [hE v]; exact h0))
  have hd : (m != 0) = true := by simp [h0]
  have hdd : (m == m) = true := by simp
  simp only [TV.val, TV.cells]
  have X0 := Lib.hid (Box.new w x 29)
  have B0 := Lib.hid ((Below.refl w.heap.size w).alloc (Nat.le_refl _) (.cells x.cells 29))
  clear hr hm h0 hE
  cases two?
  all_goals
    go_enter Tryz.func4, Tryz.ntmps4
    go_wp2_with fail
    refine (begun25_calls _).mono ?_
    rintro e w1 ⟨rfl, hb1⟩
    have X1 : Box w1 w.heap.size x := X0.out.below hb1 (by simp)
    have HB1 : Hid (Below w.heap.size w w1) := Lib.hid (B0.out.trans (hb1.mono (by simp)))
    have HX1 := Lib.hid X1
    have hz1 := X1.lt
    obtain ⟨q0, q1, q2, q3, q4, q5, qf⟩ := X1
    clear hb1
    go_wp2_with fail
    refine (HO.out _ _ HB1.out).mono ?_
    rintro e w2 ⟨y, rfl, hry, hb2⟩
    rw [HZ.out] at hry
    have HYK := Lib.hid (show y.kind = 0 from hry.kind)
    have hba := hb2.trans ((Below.refl w2.heap.size w2).mono hb2.size)
    have X2 := HX1.out.below hb2 hz1
    have HB2 := Lib.hid (HB1.out.trans (hb2.mono HB1.out.size))
    clear hry hba q0 q1 q2 q3 q4 q5 qf hb2
    go_upto_region 7 with fail
    have hba := (Below.refl w2.heap.size w2).alloc (Nat.le_refl _) (.cells y.cells 29)
    have hbox := Box.new w2 y 29
    have X3 := X2.below hba X2.lt
    simp only [TV.cells] at hba hbox X3
    generalize w2.alloc (.cells #[.int .i64 y.kind, .string y.text, .int .i64 y.n, .slice y.sa y.sl y.sc, .slice y.aa y.al y.ac, .slice y.ka y.kl y.kc] 29) = w3 at hba hbox X3 ⊢
    have HB3 := Lib.hid (HB2.out.trans (hba.mono HB2.out.size))
    have HY3 := Lib.hid hbox
    have hz3 := hbox.lt
    obtain ⟨q0, q1, q2, q3, q4, q5, qf⟩ := X3
    clear hba hbox X2
    go_wp2_with fail
    refine (HM.out _ HB3.out).mono ?_
    rintro e w4 ⟨rfl, hb4⟩
    have Y4 := HY3.out.below hb4 hz3
    have HB4 := Lib.hid (HB3.out.trans (hb4.mono HB3.out.size))
    obtain ⟨p0, p1, p2, p3, p4, p5, pf⟩ := Y4
    rw [HYK.out] at p0
    clear hb4 q0 q1 q2 q3 q4 q5 qf
    go_wp2_with fail
    go_ret
    exact ⟨rfl, HB4.out⟩
end Go.Proofs.YtnnhbpgpkpbinaaGreat
