/- The document's answer, package abacusref13: num. -/
import Derived.Test.YtnnhbpgpkpbinaaGreatMRef1
import Derived.Handy
set_option linter.unusedVariables false
set_option linter.unusedSimpArgs false
namespace Go.Proofs.YtnnhbpgpkpbinaaGreat
open Go.RowKit

/-- is the Num as the kind says? -/
def T.numK (k : Int) (sh at_ : List Int) : Bool := if k = 1 then T.literal sh at_ else if k = 42 then T.ranks sh at_ else sh.isEmpty && at_.isEmpty

theorem isEmpty_len {l : List Int} {n : Nat} (h : l.length = n) : l.isEmpty = ((n : Int) == 0) := by
  subst h
  cases l <;> simp
  omega

set_option maxRecDepth 100000 in
set_option maxHeartbeats 4000000 in
theorem rnum_else (kind : Int) (text : ByteArray) (n : Int) (sa aa ka : Option Addr) (sl sc al ac kl kc B : Nat) (sh at_ : List Int) (w : World) (hs : Ints w B sa sl sh) (ha : Ints w B aa al at_) (hB : B ≤ w.heap.size)
    (hsl : sl ≤ 17592186044416) (hal : al ≤ 17592186044416) (h1 : kind ≠ 1) (h2 : kind ≠ 42) :
    Calls Tryz.prog 70 #[.agg #[.int .i64 kind, .string text, .int .i64 n, .slice sa sl sc, .slice aa al ac, .slice ka kl kc]] w fun e w' => e = .returned (.bool (T.numK kind sh at_)) ∧ Below w.heap.size w w' := by
  have hS := Lib.hid hs.len
  have hA := Lib.hid ha.len
  have HK := Lib.hid (show T.numK kind sh at_ = (sh.isEmpty && at_.isEmpty) by simp [T.numK, h1, h2])
  have hk1 : (kind == 1) = false := by simpa using h1
  have hk2 : (kind == 42) = false := by simpa using h2
  clear hs ha
  go_enter Tryz.func70, Tryz.ntmps70
  go_wp2_with fail
  all_goals go_ret
  all_goals refine ⟨ret_bool ?_, ?_⟩
  all_goals first
    | (go_grown; done)
    | (rw [HK.out, isEmpty_len hS.out, isEmpty_len hA.out]; simp_all; done)
    | (rw [HK.out, isEmpty_len hS.out, isEmpty_len hA.out]; trace_state)

set_option maxRecDepth 100000 in
set_option maxHeartbeats 4000000 in
theorem rnum_lit (text : ByteArray) (n : Int) (sa aa ka : Option Addr) (sl sc al ac kl kc B : Nat) (sh at_ : List Int) (w : World) (hs : Ints w B sa sl sh) (ha : Ints w B aa al at_) (hB : B ≤ w.heap.size)
    (hsl : sl ≤ 17592186044416) (hal : al ≤ 17592186044416) :
    Calls Tryz.prog 70 #[.agg #[.int .i64 1, .string text, .int .i64 n, .slice sa sl sc, .slice aa al ac, .slice ka kl kc]] w fun e w' => e = .returned (.bool (T.numK 1 sh at_)) ∧ Below w.heap.size w w' := by
  have h1 := hs.len
  have h2 := ha.len
  have HK : Hid (T.numK 1 sh at_ = T.literal sh at_) := by show _ = _; simp [T.numK]
  match sh, hs, h1, HK with
  | [], hs, h1, HK =>
    obtain rfl : sl = 0 := by simpa using h1.symm
    have HL := Lib.hid h2
    clear h1 h2
    go_enter Tryz.func70, Tryz.ntmps70
    go_wp2_with fail
    all_goals go_ret
    all_goals refine ⟨ret_bool ?_, by go_grown⟩
    all_goals (rw [HK.out]; simp only [T.literal]; rw [HL.out]; first | rfl | (rw [Bool.eq_iff_iff]; simp; omega))
  | [k], hs, h1, HK =>
    obtain rfl : sl = 1 := by simpa using h1.symm
    obtain ⟨b, o, rfl, hb, hc⟩ := hs.cell (i := 0) (v := k) rfl
    have HL := Lib.hid h2
    clear h1 h2
    have hbw : b < w.heap.size := by omega
    rw [Nat.add_zero] at hc
    by_cases hk2 : 2 ≤ k
    case neg =>
      have hd : decide (2 ≤ k) = false := by simpa using hk2
      go_enter Tryz.func70, Tryz.ntmps70
      go_wp2_with fail
      go_quiet (fail)
      go_wp2_with fail
      all_goals go_ret
      all_goals exact ⟨ret_bool (by rw [HK.out]; simp [T.literal]; omega), below_drewN (by go_grown) _⟩
    by_cases hk64 : k ≤ 64
    case neg =>
      have hd : decide (k ≤ 64) = false := by simpa using hk64
      go_enter Tryz.func70, Tryz.ntmps70
      go_wp2_with fail
      go_quiet (fail)
      go_wp2_with fail
      all_goals go_ret
      all_goals exact ⟨ret_bool (by rw [HK.out]; simp [T.literal]; omega), below_drewN (by go_grown) _⟩
    go_enter Tryz.func70, Tryz.ntmps70
    go_wp2_with fail
    go_quiet (fail)
    go_wp2_with fail
    all_goals go_ret
    all_goals refine ⟨ret_bool ?_, below_drewN (by go_grown) _⟩
    all_goals (rw [HK.out]; simp only [T.literal]; rw [HL.out]; first | (simp [hk2, hk64]; done) | (rw [Bool.eq_iff_iff]; simp [hk2, hk64]; done))
  | k :: j :: r, hs, h1, HK =>
    have hsl2 : 2 ≤ sl := by rw [← h1]; simp
    clear h1 h2
    have hne0 : ((sl : Int) == 0) = false := by simp; omega
    have hne1 : ((sl : Int) == 1) = false := by simp; omega
    go_enter Tryz.func70, Tryz.ntmps70
    go_wp2_with fail
    go_quiet (fail)
    go_wp2_with fail
    all_goals go_ret
    all_goals exact ⟨by rw [HK.out]; rfl, below_drewN (by go_grown) _⟩

set_option maxRecDepth 100000 in
set_option maxHeartbeats 4000000 in
theorem rnum_rank (text : ByteArray) (n : Int) (sa aa ka : Option Addr) (sl sc al ac kl kc B : Nat) (sh at_ : List Int) (w : World) (hs : Ints w B sa sl sh) (ha : Ints w B aa al at_) (hB : B ≤ w.heap.size)
    (hsl : sl ≤ 17592186044416) (hal : al ≤ 17592186044416) :
    Calls Tryz.prog 70 #[.agg #[.int .i64 42, .string text, .int .i64 n, .slice sa sl sc, .slice aa al ac, .slice ka kl kc]] w fun e w' => e = .returned (.bool (T.numK 42 sh at_)) ∧ Below w.heap.size w w' := by
  have HK : Hid (T.numK 42 sh at_ = T.ranks sh at_) := by show _ = _; simp [T.numK]
  have h1 := hs.len
  have h2 := ha.len
  by_cases hl1 : sl = 1
  case neg =>
    have hF := Lib.hid (ranks_far sh at_ (fun k hk => by subst hk; simp at h1; omega))
    have hne : ((sl : Int) != 1) = true := by simp; omega
    clear h1 h2
    go_enter Tryz.func70, Tryz.ntmps70
    go_wp2_with fail
    go_quiet (fail)
    go_wp2_with fail
    go_ret
    exact ⟨ret_bool (by rw [HK.out, hF.out]), below_drewN (by go_grown) _⟩
  subst hl1
  obtain ⟨k, rfl⟩ : ∃ k, sh = [k] := by
    match sh, h1 with
    | [k], _ => exact ⟨k, rfl⟩
  obtain ⟨b, o, rfl, hb, hc⟩ := hs.cell (i := 0) (v := k) rfl
  rw [Nat.add_zero] at hc
  have hbw : b < w.heap.size := by omega
  by_cases hk1 : k < 1
  case pos =>
    have hF := Lib.hid (ranks_far [k] at_ (fun j hj => by injection hj with hj; omega))
    clear h1 h2
    go_enter Tryz.func70, Tryz.ntmps70
    go_wp2_with fail
    go_quiet (fail)
    go_wp2_with fail
    go_ret
    exact ⟨ret_bool (by rw [HK.out, hF.out]), below_drewN (by go_grown) _⟩
  have hd1 : decide (k < 1) = false := by simpa using hk1
  by_cases hk3 : 3 < k
  case pos =>
    have hF := Lib.hid (ranks_far [k] at_ (fun j hj => by injection hj with hj; omega))
    clear h1 h2
    go_enter Tryz.func70, Tryz.ntmps70
    go_wp2_with fail
    go_quiet (fail)
    go_wp2_with fail
    go_ret
    exact ⟨ret_bool (by rw [HK.out, hF.out]), below_drewN (by go_grown) _⟩
  have hd3 : decide (3 < k) = false := by simpa using hk3
  by_cases hka : (al : Int) = k
  case neg =>
    have hF := Lib.hid (ranks_far [k] at_ (fun j hj => by injection hj with hj; omega))
    have hne : ((al : Int) != k) = true := by simpa using hka
    clear h1 h2
    go_enter Tryz.func70, Tryz.ntmps70
    go_wp2_with fail
    go_quiet (fail)
    go_wp2_with fail
    go_ret
    exact ⟨ret_bool (by rw [HK.out, hF.out]), below_drewN (by go_grown) _⟩
  have hF := Lib.hid (HK.out.trans (ranks_near (k := k) (at_ := at_) (by omega) (by omega) (by omega)))
  have hne : ((al : Int) != k) = false := by simpa using hka
  obtain ⟨b2, o2, rfl, hb2, hc2⟩ := ha.2 (by omega)
  have hbw2 : b2 < w.heap.size := by omega
  have HC := Lib.hid hc2
  have HL := Lib.hid h2
  have HKA := Lib.hid hka
  clear h1 h2 hc2 hka ha hs HK
  go_enter Tryz.func70, Tryz.ntmps70
  go_wp2_with fail
  go_quiet (fail)
  go_wp2_with fail
  go_loop [4] (fun i => ∃ j : Nat, j ≤ al ∧ i = .int .i64 j ∧ Hid ((at_.take j).all T.isRank = true)) (fun i => al - (intOf i).toNat)
  case atStart => exact ⟨0, by omega, rfl, by show (at_.take 0).all T.isRank = true; simp⟩
  case round =>
    obtain ⟨j, hj, rfl, hok⟩ := hrel
    by_cases hlt : j < al
    · obtain ⟨v, hv⟩ : ∃ v, at_[j]? = some v := ⟨at_[j]'(by rw [HL.out]; exact hlt), by simp⟩
      have hcell := HC.out j v hv
      have HV := Lib.hid hv
      clear hv
      go_wp2_with fail
      all_goals first
        | (go_ret
           exact ⟨ret_bool (by rw [hF.out, all_false HV.out (isRank_false (by first | omega | (simp only [bne_iff_ne, ne_eq] at *; omega)))]), below_drewN (by go_grown) _⟩)
        | (go_round
           case rel => exact ⟨j + 1, by omega, by go_num, show (at_.take (j + 1)).all T.isRank = true by rw [all_take_succ HV.out, hok.out, isRank_true (by first | omega | (simp only [bne_eq_false_iff_eq] at *; omega))]; rfl⟩
           case measure => simp [intOf]; omega)
    · have hjl : at_.length ≤ j := by rw [HL.out]; omega
      go_wp2_with fail
      go_ret
      exact ⟨ret_bool (by have := hok.out; rw [List.take_of_length_le hjl] at this; rw [hF.out, this]), below_drewN (by go_grown) _⟩

theorem rnum_calls (t : T) (x : TV) (B : Nat) (w : World) (hr : Rep w B t x) (hB : B ≤ w.heap.size) :
    Calls Tryz.prog 70 #[x.val] w fun e w' => e = .returned (.bool (T.numK t.kind t.shape t.atoms)) ∧ Below w.heap.size w w' := by
  have hk := hr.kind
  have h := hr.wee
  have hs := hr.shape
  have ha := hr.atoms
  rw [← hk]
  obtain ⟨kind, text, n, sa, sl, sc, aa, al, ac, ka, kl, kc⟩ := x
  have s1 : sl ≤ 17592186044416 := h.s1
  have a1 : al ≤ 17592186044416 := h.a1
  show Calls Tryz.prog 70 #[.agg #[.int .i64 kind, .string text, .int .i64 n, .slice sa sl sc, .slice aa al ac, .slice ka kl kc]] w fun e w' => e = .returned (.bool (T.numK kind t.shape t.atoms)) ∧ Below w.heap.size w w'
  by_cases h1 : kind = 1
  · rw [h1]; exact rnum_lit text n sa aa ka sl sc al ac kl kc B t.shape t.atoms w hs ha hB s1 a1
  by_cases h2 : kind = 42
  · rw [h2]; exact rnum_rank text n sa aa ka sl sc al ac kl kc B t.shape t.atoms w hs ha hB s1 a1
  exact rnum_else kind text n sa aa ka sl sc al ac kl kc B t.shape t.atoms w hs ha hB s1 a1 h1 h2
end Go.Proofs.YtnnhbpgpkpbinaaGreat
