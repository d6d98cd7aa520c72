/- Package term: good, May. -/
import Derived.Test.YtnnhbpgpkpbinaaGreatTerm11
namespace Go.Proofs.YtnnhbpgpkpbinaaGreat
open Go.RowKit

theorem beq_true {a b : Int} (h : a = b) : (a == b) = true := by simp [h]
theorem beq_false {a b : Int} (h : ¬ a = b) : (a == b) = false := by simp [h]
theorem good_all (t : T) : GoodAll t := by
  refine T.ind (P := GoodAll) ?_ t
  intro k s n sh a l ih x tb to B al w hr hat hB
  have ih' : ∀ u ∈ (T.mk k s n sh a l).kids, GoodAll u := ih
  generalize T.mk k s n sh a l = t at *
  by_cases hc : T.cls x.kind = 0
  · exact good_class hr hat hB hc
  obtain ⟨c, hcc⟩ : ∃ c, T.cls x.kind = c := ⟨_, rfl⟩
  have h0 : (c == 0) = false := beq_false (by rw [← hcc]; exact hc)
  by_cases hf : t.fields = true
  case neg => exact good_fields hr hat hB hcc h0 (by simpa using hf)
  by_cases hk : t.kidsOk = true
  case neg => exact good_kids hr hat hB hcc h0 hf (by simpa using hk)
  cases al
  · by_cases h23 : x.kind = 23
    · cases hn : (x.n == 1)
      · exact good_way_bf hr hat hB ih' hcc h0 hf hk h23 hn
      · exact good_way_bt hr hat hB ih' hcc h0 hf hk h23 hn
    · exact good_way_a hr hat hB ih' hcc h0 hf hk (beq_false h23)
  · by_cases h2 : x.kind = 2
    · cases hx : (x.text.toList == [120])
      · exact good_way_c hr hat hB ih' hcc h0 hf hk h2 hx
      · exact good_x2 hr hat hB hcc h0 hf hk rfl h2 hx
    by_cases h11 : x.kind = 11
    · cases hx : (x.text.toList == [120])
      · exact good_way_d hr hat hB ih' hcc h0 hf hk h11 hx
      · exact good_x11 hr hat hB hcc h0 hf hk rfl h11 hx
    by_cases h23 : x.kind = 23
    · cases hn : (x.n == 1)
      · exact good_way_ff hr hat hB ih' hcc h0 hf hk h23 hn
      · exact good_way_ft hr hat hB ih' hcc h0 hf hk h23 hn
    · exact good_way_e hr hat hB ih' hcc h0 hf hk (beq_false h2) (beq_false h11) (beq_false h23)

/-- the contract of May -/
def MayPost (t : T) (c : Int) (w : World) (e : Ending) (w' : World) : Prop := e = .returned (.int .i64 (T.may t c)) ∧ Below w.heap.size w w'
theorem MayPost.mk' {t : T} {c r : Int} {w w' : World} (h : r = T.may t c) (hb : Below w.heap.size w w') : MayPost t c w (.returned (.int .i64 r)) w' := ⟨by rw [h], hb⟩

theorem great_known {t : T} {x : TV} {B : Nat} {v : Bool} (hv : v = true ↔ ¬ t.fits) {w W : World} (hr : Rep w B t x) (hB : B ≤ w.heap.size) (hb : Below w.heap.size w W) :
    Calls Tryz.prog 32 #[.agg #[.int .i64 x.kind, .string x.text, .int .i64 x.n, .slice x.sa x.sl x.sc, .slice x.aa x.al x.ac, .slice x.ka x.kl x.kc]] W fun e w' => e = .returned (.bool v) ∧ Below W.heap.size W w' := by
  have h := great_calls t x B W (hr.below hb hB) (Nat.le_trans hB hb.size)
  have e : decide (4096 < (t.sizeN : Int)) = v := by
    rw [Bool.eq_iff_iff, hv, decide_eq_true_eq, T.sizeN]
    split
    · rename_i hf
      have := hf.1
      constructor
      · intro h; omega
      · intro h; exact absurd hf h
    · rename_i hf
      exact ⟨fun _ => hf, fun _ => by omega⟩
  rw [e] at h
  exact h

set_option maxHeartbeats 2000000 in
theorem may_calls (t : T) (x : TV) (B : Nat) (c : Int) (w : World) (hr : Rep w B t x) (hB : B ≤ w.heap.size) :
    Calls Tryz.prog 13 #[x.val, .int .i64 c] w (MayPost t c w) := by
  simp only [TV.val, TV.cells]
  by_cases hc : c ≠ 1 ∧ c ≠ 2 ∧ c ≠ 3
  · have h1 : (c != 1) = true := by simp [hc.1]
    have h2 : (c != 2) = true := by simp [hc.2.1]
    have h3 : (c != 3) = true := by simp [hc.2.2]
    have HM := Lib.hid (show (1 : Int) = T.may t c from by rw [T.may, if_pos hc])
    clear hc
    go_enter Tryz.func13, Tryz.ntmps13
    go_wp2_with fail
    go_ret
    exact MayPost.mk' HM.out (by go_grown)
  have hc' : c = 1 ∨ c = 2 ∨ c = 3 := by omega
  clear hc
  have hb1 : Below w.heap.size w (w.alloc (.cells #[.int .i64 x.kind, .string x.text, .int .i64 x.n, .slice x.sa x.sl x.sc, .slice x.aa x.al x.ac, .slice x.ka x.kl x.kc] 29)) := (Below.refl w.heap.size w).alloc (Nat.le_refl _) _
  have hat := At.boxed w x 29
  simp only [TV.cells] at hat
  have HAT := Lib.hid hat
  have HR := Lib.hid hr
  clear hat
  by_cases hf : t.fits
  case neg =>
    have HM := Lib.hid (show (2 : Int) = T.may t c from by rw [T.may, if_neg (by omega), if_pos hf])
    have HG := Lib.hid (fun W (h : Below w.heap.size w W) => great_known (v := true) (by simp [hf]) HR.out hB h)
    clear hf hr
    rcases hc' with rfl | rfl | rfl
    all_goals
      go_enter Tryz.func13, Tryz.ntmps13
      go_wp2_with (go_at_call 32; refine (HG.out _ hb1).mono ?_; rintro e w1 ⟨rfl, hb2⟩)
      go_ret
      exact MayPost.mk' HM.out (hb1.trans (hb2.mono (by simp)))
  have HG := Lib.hid (fun W (h : Below w.heap.size w W) => great_known (v := false) (by simp [hf]) HR.out hB h)
  have HGA := Lib.hid (good_all t)
  have hx1 := hr.wee.ts
  have HKD := Lib.hid hr.kind
  clear hr
  have HF := Lib.hid hf
  clear hf
  rcases hc' with rfl | rfl | rfl
  all_goals
    go_enter Tryz.func13, Tryz.ntmps13
    go_wp2_with (go_at_call 32; refine (HG.out _ hb1).mono ?_; rintro e w1 ⟨rfl, hb2⟩; have B1 := Lib.hid (hb2); clear hb2; obtain ⟨hc1, hf1⟩ := bcell B1.out; have hz1 := B1.out.size; clear hf1)
    have hz2 : w.heap.size < w1.heap.size := by simp at hz1; omega
    have R1 := Lib.hid (HR.out.below (hb1.trans (B1.out.mono (by simp))) hB)
    have A1 := Lib.hid (HAT.out.keep (B := w.heap.size + 1) (by omega) (Keeps.of_below B1.out (by simp)))
    clear hz1
    cases hv : T.good t false
    · have HM := Lib.hid (fun (c : Int) (h : c = 1 ∨ c = 2 ∨ c = 3) => show (33 : Int) = T.may t c from by rw [T.may, if_neg (by omega), if_neg (by simpa using HF.out), if_pos hv])
      have HG2 := Lib.hid (good_known HGA.out R1.out A1.out (by omega) hv)
      clear hv
      refine HG2.out.mono ?_
      rintro e w2 ⟨rfl, hb2⟩
      have B2 := Lib.hid hb2
      clear hb2 hc1
      go_wp2_with fail
      go_ret
      exact MayPost.mk' (HM.out _ (by decide)) (hb1.trans ((B1.out.trans (B2.out.mono (by simp; omega))).mono (by simp)))
    · have HM := Lib.hid (fun (c : Int) (h : c = 1 ∨ c = 2 ∨ c = 3) => show T.may t c = if T.cls x.kind ≠ c then 5 else 0 from by rw [T.may, if_neg (by omega), if_neg (by simpa using HF.out), if_neg (by rw [hv]; decide), HKD.out])
      have HG2 := Lib.hid (good_known HGA.out R1.out A1.out (by omega) hv)
      clear hv
      refine HG2.out.mono ?_
      rintro e w2 ⟨rfl, hb2⟩
      have B2 := Lib.hid hb2
      obtain ⟨hc2, hf2⟩ := bcell B2.out
      have hz3 := hb2.size
      clear hb2 hf2
      go_wp2_with (go_at_call 34; refine (class_known rfl _).mono ?_; rintro e w3 ⟨rfl, hb3⟩; have B3 := Lib.hid hb3; clear hb3)
      all_goals go_ret
      all_goals refine MayPost.mk' ?_ (hb1.trans ((B1.out.trans ((B2.out.trans (B3.out.mono hz3)).mono (by simp; omega))).mono (by simp)))
      all_goals (rw [HM.out _ (by decide)]; simp_all)
end Go.Proofs.YtnnhbpgpkpbinaaGreat
