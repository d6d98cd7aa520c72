/- Package term: literal, ranks. -/
import Derived.Test.YtboondbognbnnaaGreatDoorQTermA
set_option linter.unusedVariables false
set_option linter.unusedSimpArgs false
namespace Go.Proofs.YtboondbognbnnaaGreatDoor
open Go.RowKit

theorem Ints.len {w : World} {B len : Nat} {A : Option Addr} {xs : List Int} (h : Ints w B A len xs) : xs.length = len := h.1
theorem Ints.cell {w : World} {B len : Nat} {A : Option Addr} {xs : List Int} (h : Ints w B A len xs) {i : Nat} {v : Int} (hi : xs[i]? = some v) : ∃ b o, A = some ⟨b, o, none⟩ ∧ b < B ∧ w.cell? ⟨b, o + i, none⟩ = some (.int .i64 v) := by
  have hlt : i < xs.length := (List.getElem?_eq_some_iff.1 hi).1
  obtain ⟨b, o, e, hb, hc⟩ := h.2 (by have := h.1; omega)
  exact ⟨b, o, e, hb, hc i v hi⟩

set_option maxHeartbeats 1000000 in
theorem literal_calls (sa aa : Option Addr) (sl sc al ac B : Nat) (sh at_ : List Int) (w : World) (hs : Ints w B sa sl sh) (ha : Ints w B aa al at_) (hB : B ≤ w.heap.size)
    (hsl : sl ≤ 17592186044416) (hal : al ≤ 17592186044416) :
    Calls Tryz.prog 88 #[.agg #[.slice sa sl sc, .slice aa al ac]] w fun e w' => e = .returned (.bool (T.literal sh at_)) ∧ Below w.heap.size w w' := by
  have h1 := hs.len
  have h2 := ha.len
  match sh, hs, h1 with
  | [], hs, h1 =>
    obtain rfl : sl = 0 := by simpa using h1.symm
    have HL := Lib.hid h2
    clear h1 h2
    go_enter Tryz.func88, Tryz.ntmps88
    go_wp2_with fail
    all_goals go_ret
    all_goals refine ⟨ret_bool ?_, (Below.refl _ _).alloc (Nat.le_refl _) _⟩
    all_goals (simp only [T.literal]; rw [HL.out]; first | rfl | (rw [Bool.eq_iff_iff]; simp; omega))
  | [k], hs, h1 =>
    obtain rfl : sl = 1 := by simpa using h1.symm
    obtain ⟨b, o, rfl, hb, hc⟩ := hs.cell (i := 0) (v := k) rfl
    have HL := Lib.hid h2
    clear h1 h2
    have hbw : b < w.heap.size := by omega
    rw [Nat.add_zero] at hc
    by_cases hk2 : 2 ≤ k
    case neg =>
      have hd : decide (2 ≤ k) = false := by simpa using hk2
      go_enter Tryz.func88, Tryz.ntmps88
      go_wp2_with fail
      go_quiet (fail)
      go_wp2_with fail
      all_goals go_ret
      all_goals exact ⟨ret_bool (by simp [T.literal]; omega), below_drewN ((Below.refl _ _).alloc (Nat.le_refl _) _) _⟩
    by_cases hk64 : k ≤ 64
    case neg =>
      have hd : decide (k ≤ 64) = false := by simpa using hk64
      go_enter Tryz.func88, Tryz.ntmps88
      go_wp2_with fail
      go_quiet (fail)
      go_wp2_with fail
      all_goals go_ret
      all_goals exact ⟨ret_bool (by simp [T.literal]; omega), below_drewN ((Below.refl _ _).alloc (Nat.le_refl _) _) _⟩
    go_enter Tryz.func88, Tryz.ntmps88
    go_wp2_with fail
    go_quiet (fail)
    go_wp2_with fail
    all_goals go_ret
    all_goals refine ⟨ret_bool ?_, below_drewN ((Below.refl _ _).alloc (Nat.le_refl _) _) _⟩
    all_goals (simp only [T.literal]; rw [HL.out]; first | (simp [hk2, hk64]; done) | (rw [Bool.eq_iff_iff]; simp [hk2, hk64]; done))
  | k :: j :: r, hs, h1 =>
    have hsl2 : 2 ≤ sl := by rw [← h1]; simp
    clear h1 h2
    go_enter Tryz.func88, Tryz.ntmps88
    go_wp2_with fail
    all_goals go_ret
    all_goals exact ⟨rfl, (Below.refl _ _).alloc (Nat.le_refl _) _⟩

/-- is a number a rank? -/
def T.isRank (n : Int) : Bool := n == 64 || (decide (-8 ≤ n) && decide (n ≤ 8))
theorem ranks_far (sh at_ : List Int) (h : ∀ k, sh = [k] → ¬ (1 ≤ k ∧ k ≤ 3 ∧ (at_.length : Int) = k)) : T.ranks sh at_ = false := by
  match sh with
  | [] => rfl
  | [k] =>
    have := h k rfl
    simp only [T.ranks]
    cases hh : (decide (1 ≤ k) && decide (k ≤ 3) && decide ((at_.length : Int) = k))
    · rfl
    · simp only [Bool.and_eq_true, decide_eq_true_eq] at hh; omega
  | _ :: _ :: _ => rfl

theorem ranks_near {k : Int} {at_ : List Int} (h1 : 1 ≤ k) (h3 : k ≤ 3) (hk : (at_.length : Int) = k) : T.ranks [k] at_ = at_.all T.isRank := by
  simp only [T.ranks, h1, h3, hk, decide_true, Bool.true_and]
  rfl
theorem all_take_succ {p : Int → Bool} {l : List Int} {i : Nat} {v : Int} (h : l[i]? = some v) : (l.take (i + 1)).all p = ((l.take i).all p && p v) := by
  rw [List.take_add_one, h]
  simp
theorem all_false {p : Int → Bool} {l : List Int} {i : Nat} {v : Int} (h : l[i]? = some v) (hp : p v = false) : l.all p = false := by
  rw [List.all_eq_false]
  exact ⟨v, List.mem_of_getElem? h, by simp [hp]⟩
theorem isRank_true {n : Int} (h : n = 64 ∨ (-8 ≤ n ∧ n ≤ 8)) : T.isRank n = true := by
  simp only [T.isRank, Bool.or_eq_true, beq_iff_eq, Bool.and_eq_true, decide_eq_true_eq]; omega
theorem isRank_false {n : Int} (h : ¬ (n = 64 ∨ (-8 ≤ n ∧ n ≤ 8))) : T.isRank n = false := by
  cases hi : T.isRank n
  · rfl
  · simp only [T.isRank, Bool.or_eq_true, beq_iff_eq, Bool.and_eq_true, decide_eq_true_eq] at hi; omega

set_option maxHeartbeats 4000000 in
theorem ranks_calls (sa aa : Option Addr) (sl sc al ac B : Nat) (sh at_ : List Int) (w : World) (hs : Ints w B sa sl sh) (ha : Ints w B aa al at_) (hB : B ≤ w.heap.size)
    (hsl : sl ≤ 17592186044416) (hal : al ≤ 17592186044416) :
    Calls Tryz.prog 91 #[.agg #[.slice sa sl sc, .slice aa al ac]] w fun e w' => e = .returned (.bool (T.ranks sh at_)) ∧ Below w.heap.size w w' := by
  have h1 := hs.len
  have h2 := ha.len
  have hbx := fun cs : Array Value => (Below.refl w.heap.size w).alloc (Nat.le_refl _) (.cells cs 26)
  by_cases hl1 : sl = 1
  case neg =>
    have hF := Lib.hid (ranks_far sh at_ (fun k hk => by subst hk; simp at h1; omega))
    have hne : ((sl : Int) != 1) = true := by simp; omega
    clear h1 h2
    go_enter Tryz.func91, Tryz.ntmps91
    go_wp2_with fail
    go_quiet (fail)
    go_wp2_with fail
    go_ret
    exact ⟨ret_bool (by rw [hF.out]), below_drewN (hbx _) _⟩
  subst hl1
  obtain ⟨k, rfl⟩ : ∃ k, sh = [k] := by
    match sh, h1 with
    | [k], _ => exact ⟨k, rfl⟩
  obtain ⟨b, o, rfl, hb, hc⟩ := hs.cell (i := 0) (v := k) rfl
  rw [Nat.add_zero] at hc
  have hbw : b < w.heap.size := by omega
  by_cases hk1 : k < 1
  case pos =>
    have hF := Lib.hid (ranks_far [k] at_ (fun j hj => by injection hj with hj; omega))
    clear h1 h2
    go_enter Tryz.func91, Tryz.ntmps91
    go_wp2_with fail
    go_quiet (fail)
    go_wp2_with fail
    go_ret
    exact ⟨ret_bool (by rw [hF.out]), below_drewN (hbx _) _⟩
  have hd1 : decide (k < 1) = false := by simpa using hk1
  by_cases hk3 : 3 < k
  case pos =>
    have hF := Lib.hid (ranks_far [k] at_ (fun j hj => by injection hj with hj; omega))
    clear h1 h2
    go_enter Tryz.func91, Tryz.ntmps91
    go_wp2_with fail
    go_quiet (fail)
    go_wp2_with fail
    go_ret
    exact ⟨ret_bool (by rw [hF.out]), below_drewN (hbx _) _⟩
  have hd3 : decide (3 < k) = false := by simpa using hk3
  by_cases hka : (al : Int) = k
  case neg =>
    have hF := Lib.hid (ranks_far [k] at_ (fun j hj => by injection hj with hj; omega))
    have hne : ((al : Int) != k) = true := by simpa using hka
    clear h1 h2
    go_enter Tryz.func91, Tryz.ntmps91
    go_wp2_with fail
    go_quiet (fail)
    go_wp2_with fail
    go_ret
    exact ⟨ret_bool (by rw [hF.out]), below_drewN (hbx _) _⟩
  have hF := Lib.hid (ranks_near (k := k) (at_ := at_) (by omega) (by omega) (by omega))
  have hne : ((al : Int) != k) = false := by simpa using hka
  obtain ⟨b2, o2, rfl, hb2, hc2⟩ := ha.2 (by omega)
  have hbw2 : b2 < w.heap.size := by omega
  have HC := Lib.hid hc2
  have HL := Lib.hid h2
  have HK := Lib.hid hka
  clear h1 h2 hc2 hka ha hs
  go_enter Tryz.func91, Tryz.ntmps91
  go_wp2_with fail
  go_quiet (fail)
  go_wp2_with fail
  go_loop [36] (fun i => ∃ j : Nat, j ≤ al ∧ i = .int .i64 j ∧ Hid ((at_.take j).all T.isRank = true)) (fun i => al - (intOf i).toNat)
  case atStart => exact ⟨0, by omega, rfl, by show (at_.take 0).all T.isRank = true; simp⟩
  case round =>
    obtain ⟨j, hj, rfl, hok⟩ := hrel
    by_cases hlt : j < al
    · obtain ⟨v, hv⟩ : ∃ v, at_[j]? = some v := ⟨at_[j]'(by rw [HL.out]; exact hlt), by simp⟩
      have hcell := HC.out j v hv
      have HV := Lib.hid hv
      clear hv
      go_wp2_with fail
      all_goals first
        | (go_ret
           exact ⟨ret_bool (by rw [hF.out, all_false HV.out (isRank_false (by omega))]), below_drewN (hbx _) _⟩)
        | (go_round
           case rel => exact ⟨j + 1, by omega, by go_num, show (at_.take (j + 1)).all T.isRank = true by rw [all_take_succ HV.out, hok.out, isRank_true (by first | omega | (simp only [bne_eq_false_iff_eq] at *; omega))]; rfl⟩
           case measure => simp [intOf]; omega)
    · have hjl : at_.length ≤ j := by rw [HL.out]; omega
      go_wp2_with fail
      go_ret
      exact ⟨ret_bool (by have := hok.out; rw [List.take_of_length_le hjl] at this; rw [hF.out, this]), below_drewN (hbx _) _⟩
end Go.Proofs.YtboondbognbnnaaGreatDoor
