/- The document's answer, package abacusref13: Class, Operand, fits, kids, Name. -/
import Derived.Test.YtnnhbpgpkpbinaaGreatMTerm6
set_option linter.unusedVariables false
set_option linter.unusedSimpArgs false
namespace Go.Proofs.YtnnhbpgpkpbinaaGreat
open Go.RowKit

theorem rclass_calls (x : TV) (w : World) : Calls Tryz.prog 41 #[x.val] w fun e w' => e = .returned (.int .i64 (T.cls x.kind)) ∧ Below w.heap.size w w' := by
  obtain ⟨kind, text, n, sa, sl, sc, aa, al, ac, ka, kl, kc⟩ := x
  simp only [TV.val, TV.cells]
  go_enter Tryz.func41, Tryz.ntmps41
  go_wp2_with fail
  all_goals go_ret
  all_goals exact ⟨ret_int (by unfold T.cls; (repeat' split) <;> omega), (Below.refl _ _).alloc (Nat.le_refl _) _⟩

theorem roperand_calls (x : TV) (w : World) : Calls Tryz.prog 85 #[x.val] w fun e w' => e = .returned (.bool (T.operandK x.kind x.text.data.toList)) ∧ Below w.heap.size w w' := by
  obtain ⟨kind, text, n, sa, sl, sc, aa, al, ac, ka, kl, kc⟩ := x
  simp only [TV.val, TV.cells]
  go_enter Tryz.func85, Tryz.ntmps85
  go_wp2_with fail
  all_goals go_ret
  all_goals refine ⟨?_, (Below.refl _ _).alloc (Nat.le_refl _) _⟩
  all_goals simp_all [T.operandK, ByteArray.toList_eq, bne]

theorem rfits_calls (x : TV) (c : Int) (w : World) : Calls Tryz.prog 79 #[x.val, .int .u8 c] w fun e w' => e = .returned (.bool (T.isK x.kind x.text.data.toList c)) ∧ Below w.heap.size w w' := by
  have hC := fun W => rclass_calls x W
  have hO := fun W => roperand_calls x W
  obtain ⟨kind, text, n, sa, sl, sc, aa, al, ac, ka, kl, kc⟩ := x
  simp only [TV.val, TV.cells] at hC hO ⊢
  have HC := Lib.hid hC
  have HO := Lib.hid hO
  clear hC hO
  go_enter Tryz.func79, Tryz.ntmps79
  go_wp2_with (first
    | (go_at_call 41; refine (HC.out _).mono ?_; rintro e w1 ⟨rfl, hb⟩; obtain ⟨hc, hf⟩ := bcell hb; have hs := hb.size; (try simp at hs); have hz : w.heap.size < w1.heap.size := (by omega))
    | (go_at_call 85; refine (HO.out _).mono ?_; rintro e w1 ⟨rfl, hb⟩; obtain ⟨hc, hf⟩ := bcell hb))
  all_goals go_ret
  all_goals refine ⟨?_, ?_⟩
  all_goals first
    | (with_reducible exact (Below.refl _ _).alloc (Nat.le_refl _) _)
    | (with_reducible exact Below.trans ((Below.refl _ _).alloc (Nat.le_refl _) _) (hb.mono (by simp)))
    | (clear hc hf hb; simp_all [T.isK, bne]; done)
    | (simp_all [T.isK, bne]; done)
    | skip

/-- the letters of a kind, as the document has them -/
def T.letters (k : Int) : List UInt8 :=
  if T.cls k = 0 then [63] else if k = 5 then [110, 42] else if k = 14 then [115, 43] else if k = 43 then [118, 42] else T.pattern k

theorem letters_calls (k : Int) (w : World) : Calls Tryz.prog 67 #[.int .i64 k] w fun e w' => e = .returned (.string (T.txt (T.letters k))) ∧ w = w' := by
  go_enter Tryz.func67, Tryz.ntmps67
  go_wp2_with fail
  all_goals go_ret
  all_goals refine ⟨?_, rfl⟩
  all_goals first | rfl | (simp_all [T.letters, T.pattern, T.cls, T.txt]; done) | skip
  · simp only [beq_eq_false_iff_ne, ne_eq] at *
    have hk : T.cls k = 0 := by unfold T.cls; (repeat' split) <;> omega
    show Ending.returned (.string ⟨#[63]⟩) = _
    simp [T.letters, hk, T.txt]

theorem rname_no (s : ByteArray) (lo : Int) (w : World) (hs : s.size ≤ 140737488355328) (hb : s.size < 1 ∨ 32 < s.size) :
    Calls Tryz.prog 80 #[.string s, .int .u8 lo] w fun e w' => e = .returned (.bool false) ∧ w = w' := by
  by_cases h1 : s.size < 1
  · go_enter Tryz.func80, Tryz.ntmps80
    go_wp2_with fail
    all_goals go_ret
    all_goals exact ⟨rfl, rfl⟩
  · have h2 : 32 < s.size := by omega
    go_enter Tryz.func80, Tryz.ntmps80
    go_wp2_with fail
    all_goals go_ret
    all_goals exact ⟨rfl, rfl⟩

set_option maxHeartbeats 2000000 in
theorem rname_yes (s : ByteArray) (lo hi : Int) (w : World) (h1 : 0 < s.size) (h2 : s.size ≤ 32) (h : lo = 97 ∧ hi = 122 ∨ lo = 65 ∧ hi = 90) :
    Calls Tryz.prog 80 #[.string s, .int .u8 lo] w fun e w' => e = .returned (.bool (T.named s.data.toList lo hi)) ∧ w = w' := by
  have hn := Lib.hid (named_split s lo hi h1 h2)
  have hw : IntKind.u8.wrap (lo + 25) = hi := by rcases h with ⟨rfl, rfl⟩ | ⟨rfl, rfl⟩ <;> rfl
  by_cases hlo : lo ≤ (s[0].toNat : Int)
  case neg =>
    go_enter Tryz.func80, Tryz.ntmps80
    go_wp2_with fail
    all_goals first | (exfalso; omega) | skip
    all_goals go_ret
    all_goals exact ⟨ret_bool (by rw [hn.out]; simp; omega), rfl⟩
  by_cases hhi : (s[0].toNat : Int) ≤ hi
  case neg =>
    go_enter Tryz.func80, Tryz.ntmps80
    go_wp2_with fail
    all_goals first | (exfalso; omega) | skip
    all_goals go_ret
    all_goals exact ⟨ret_bool (by rw [hn.out]; simp; omega), rfl⟩
  have hn' : T.named s.data.toList lo hi = okTo s.data.toList s.size := by rw [hn.out]; simp [hlo, hhi]
  have HN := Lib.hid hn'
  clear hn hn'
  go_enter Tryz.func80, Tryz.ntmps80
  go_wp2_with fail
  all_goals first | (exfalso; omega) | skip
  go_loop [5] (fun i => ∃ k : Nat, 1 ≤ k ∧ k ≤ s.size ∧ i = .int .i64 k ∧ Hid (okTo s.data.toList k = true)) (fun i => s.size - (intOf i).toNat)
  case atStart => exact ⟨1, by omega, by omega, rfl, okTo_one _⟩
  case round =>
    obtain ⟨k, hk1, hk, rfl, hok⟩ := hrel
    by_cases hlt : k < s.size
    · have HS := Lib.hid (okTo_succ s k hlt hk1)
      have HF := Lib.hid (okTo_false s k hlt hk1)
      go_wp2_with fail
      all_goals (try simp only [Bool.not_eq_true', Bool.not_eq_false', decide_eq_true_eq, decide_eq_false_iff_not] at *)
      all_goals first
        | (go_ret
           exact ⟨ret_bool (by rw [HN.out, HF.out (inner_false (by omega))]), rfl⟩)
        | (go_round
           case rel => exact ⟨k + 1, by omega, by omega, by go_num, show okTo s.data.toList (k + 1) = true by rw [HS.out, hok.out, inner_true (by omega)]; rfl⟩
           case measure => simp [intOf]; omega)
    · go_wp2_with fail
      go_ret
      obtain rfl : k = s.size := by omega
      exact ⟨ret_bool (by rw [HN.out, hok.out]), rfl⟩
end Go.Proofs.YtnnhbpgpkpbinaaGreat
