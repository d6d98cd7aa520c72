/- Package term: operand, pattern, is. Package term: named. -/
import Derived.Test.YtpfkhdlnjefikaaGreatDoorMTermA
set_option linter.unusedVariables false
set_option linter.unusedSimpArgs false
namespace Go.Proofs.YtpfkhdlnjefikaaGreatDoor
open Go.RowKit
theorem pattern_calls (k : Int) (w : World) : Calls Tryz.prog 89 #[.int .i64 k] w fun e w' => e = .returned (.string (T.txt (T.pattern k))) ∧ w = w' := by
 go_enter Tryz.func89, Tryz.ntmps89
 go_wp2_with fail
 all_goals go_ret
 all_goals refine ⟨?_, rfl⟩
 all_goals first | rfl | (simp_all [T.pattern, T.txt]; done) | skip
theorem operand_calls (x : TV) (w : World) : Calls Tryz.prog 116 #[x.val] w fun e w' => e = .returned (.bool (T.operandK x.kind x.text.data.toList)) ∧ Below w.heap.size w w' := by
 obtain ⟨kind, text, n, sa, sl, sc, aa, al, ac, ka, kl, kc⟩ := x
 simp only [TV.val, TV.cells]
 go_enter Tryz.func116, Tryz.ntmps116
 go_wp2_with fail
 all_goals go_ret
 all_goals refine ⟨?_, (Below.refl _ _).alloc (Nat.le_refl _) _⟩
 all_goals simp_all [T.operandK, ByteArray.toList_eq, bne]
/-- is a kid of a letter? -/
def T.isK (k : Int) (s : List UInt8) (c : Int) : Bool :=
 if c = 110 then T.cls k == 1 else if c = 118 then T.cls k == 3 else if c = 98 then k == 14 else if c = 111 then T.operandK k s else T.cls k == 2 && k != 14
theorem is_calls (x : TV) (c : Int) (w : World) : Calls Tryz.prog 90 #[x.val, .int .u8 c] w fun e w' => e = .returned (.bool (T.isK x.kind x.text.data.toList c)) ∧ Below w.heap.size w w' := by
 have hC := fun W => class_calls x W
 have hO := fun W => operand_calls x W
 obtain ⟨kind, text, n, sa, sl, sc, aa, al, ac, ka, kl, kc⟩ := x
 simp only [TV.val, TV.cells] at hC hO ⊢
 have HC := hid hC
 have HO := hid hO
 clear hC hO
 go_enter Tryz.func90, Tryz.ntmps90
 go_wp2_with (first
   | (go_at_call 32; refine (HC.out _).mono ?_; rintro e w1 ⟨rfl, hb⟩; obtain ⟨hc, hf⟩ := bcell hb; have hs := hb.size; (try simp at hs); have hz : w.heap.size < w1.heap.size := (by omega))
   | (go_at_call 116; refine (HO.out _).mono ?_; rintro e w1 ⟨rfl, hb⟩; obtain ⟨hc, hf⟩ := bcell hb))
 all_goals go_ret
 all_goals refine ⟨?_, ?_⟩
 all_goals first
   | (with_reducible exact (Below.refl _ _).alloc (Nat.le_refl _) _)
   | (with_reducible exact Below.trans ((Below.refl _ _).alloc (Nat.le_refl _) _) (hb.mono (by simp)))
   | (clear hc hf hb; simp_all [T.isK, bne]; done)
   | (simp_all [T.isK, bne]; done)
   | skip
end Go.Proofs.YtpfkhdlnjefikaaGreatDoor
namespace Go.Proofs.YtpfkhdlnjefikaaGreatDoor
open Go.RowKit
theorem named_no (s : ByteArray) (lo hi : Int) (w : World) (hs : s.size ≤ 140737488355328) (hb : s.size < 1 ∨ 32 < s.size) :
   Calls Tryz.prog 86 #[.string s, .int .u8 lo, .int .u8 hi] w fun e w' => e = .returned (.bool false) ∧ w = w' := by
 by_cases h1 : s.size < 1
 · go_enter Tryz.func86, Tryz.ntmps86
   go_wp2_with fail
   all_goals go_ret
   all_goals exact ⟨rfl, rfl⟩
 · have h2 : 32 < s.size := by omega
   go_enter Tryz.func86, Tryz.ntmps86
   go_wp2_with fail
   all_goals go_ret
   all_goals exact ⟨rfl, rfl⟩
/-- the letters 1 .. k - 1 are a name's -/
def okTo (L : List UInt8) (k : Nat) : Bool := ((L.take k).drop 1).all T.inner
theorem okTo_one (L : List UInt8) : okTo L 1 = true := by
 unfold okTo
 cases L <;> simp
theorem okTo_succ (s : ByteArray) (k : Nat) (hk : k < s.size) (h1 : 1 ≤ k) : okTo s.data.toList (k + 1) = (okTo s.data.toList k && T.inner s[k]) := by
 unfold okTo
 have hl : s.data.toList.length = s.size := Array.length_toList
 have e : s.data.toList.take (k + 1) = s.data.toList.take k ++ [s[k]] := by
   rw [List.take_succ_eq_append_getElem (by simpa using hk)]; rfl
 rw [e, List.drop_append_of_le_length (by simp; omega), List.all_append]
 simp
theorem okTo_false (s : ByteArray) (k : Nat) (hk : k < s.size) (h1 : 1 ≤ k) (hi : T.inner s[k] = false) : okTo s.data.toList s.size = false := by
 have hl : s.data.toList.length = s.size := Array.length_toList
 unfold okTo
 rw [List.take_of_length_le (by omega), List.all_eq_false]
 refine ⟨s[k], ?_, by simp [hi]⟩
 have e : (s.data.toList.drop 1)[k - 1]? = some s[k] := by
   rw [List.getElem?_drop, show 1 + (k - 1) = k from by omega, List.getElem?_eq_getElem (by omega)]; rfl
 exact List.mem_of_getElem? e
theorem inner_true {c : UInt8} (h : (97 ≤ (c.toNat : Int) ∧ (c.toNat : Int) ≤ 122) ∨ (65 ≤ (c.toNat : Int) ∧ (c.toNat : Int) ≤ 90) ∨ (48 ≤ (c.toNat : Int) ∧ (c.toNat : Int) ≤ 57)) : T.inner c = true := by
 simp only [T.inner, Bool.or_eq_true, Bool.and_eq_true, decide_eq_true_eq]; omega
theorem inner_false {c : UInt8} (h : ¬ ((97 ≤ (c.toNat : Int) ∧ (c.toNat : Int) ≤ 122) ∨ (65 ≤ (c.toNat : Int) ∧ (c.toNat : Int) ≤ 90) ∨ (48 ≤ (c.toNat : Int) ∧ (c.toNat : Int) ≤ 57))) : T.inner c = false := by
 cases hi : T.inner c
 · rfl
 · simp only [T.inner, Bool.or_eq_true, Bool.and_eq_true, decide_eq_true_eq] at hi; omega
theorem named_split (s : ByteArray) (lo hi : Int) (h1 : 0 < s.size) (h2 : s.size ≤ 32) : T.named s.data.toList lo hi = (decide (lo ≤ (s[0].toNat : Int)) && decide ((s[0].toNat : Int) ≤ hi) && okTo s.data.toList s.size) := by
 have hl : s.data.toList.length = s.size := Array.length_toList
 have h0 : s.data.toList[0]? = some s[0] := by rw [List.getElem?_eq_getElem (by omega)]; rfl
 unfold okTo
 rw [List.take_of_length_le (by omega)]
 generalize s.data.toList = L at *
 cases L with
 | nil => simp at hl; omega
 | cons c r =>
   simp at h0
   subst h0
   have : (s[0] :: r).length ≤ 32 := by omega
   simp only [T.named, this, decide_true, Bool.true_and, List.drop_succ_cons, List.drop_zero]
theorem ret_bool {a b : Bool} (h : a = b) : Ending.returned (.bool a) = .returned (.bool b) := by rw [h]
set_option maxHeartbeats 2000000 in
theorem named_yes (s : ByteArray) (lo hi : Int) (w : World) (h1 : 0 < s.size) (h2 : s.size ≤ 32) :
   Calls Tryz.prog 86 #[.string s, .int .u8 lo, .int .u8 hi] w fun e w' => e = .returned (.bool (T.named s.data.toList lo hi)) ∧ w = w' := by
 have hn := hid (named_split s lo hi h1 h2)
 by_cases hlo : lo ≤ (s[0].toNat : Int)
 case neg =>
   go_enter Tryz.func86, Tryz.ntmps86
   go_wp2_with fail
   all_goals first | (exfalso; omega) | skip
   all_goals go_ret
   all_goals exact ⟨ret_bool (by rw [hn.out]; simp; omega), rfl⟩
 by_cases hhi : (s[0].toNat : Int) ≤ hi
 case neg =>
   go_enter Tryz.func86, Tryz.ntmps86
   go_wp2_with fail
   all_goals first | (exfalso; omega) | skip
   all_goals go_ret
   all_goals exact ⟨ret_bool (by rw [hn.out]; simp; omega), rfl⟩
 have hn' : T.named s.data.toList lo hi = okTo s.data.toList s.size := by rw [hn.out]; simp [hlo, hhi]
 have HN := hid hn'
 clear hn hn'
 go_enter Tryz.func86, Tryz.ntmps86
 go_wp2_with fail
 all_goals first | (exfalso; omega) | skip
 go_loop [7] (fun i => ∃ k : Nat, 1 ≤ k ∧ k ≤ s.size ∧ i = .int .i64 k ∧ Hid (okTo s.data.toList k = true)) (fun i => s.size - (intOf i).toNat)
 case atStart => exact ⟨1, by omega, by omega, rfl, okTo_one _⟩
 case round =>
   obtain ⟨k, hk1, hk, rfl, hok⟩ := hrel
   by_cases hlt : k < s.size
   · have HS := hid (okTo_succ s k hlt hk1)
     have HF := hid (okTo_false s k hlt hk1)
     go_wp2_with fail
     all_goals first
       | (go_ret
          exact ⟨ret_bool (by rw [HN.out, HF.out (inner_false (by omega))]), rfl⟩)
       | (go_round
          case rel => exact ⟨k + 1, by omega, by omega, by go_num, show okTo s.data.toList (k + 1) = true by rw [HS.out, hok.out, inner_true (by omega)]; rfl⟩
          case measure => simp [intOf]; omega)
   · go_wp2_with fail
     go_ret
     obtain rfl : k = s.size := by omega
     exact ⟨ret_bool (by rw [HN.out, hok.out]), rfl⟩
end Go.Proofs.YtpfkhdlnjefikaaGreatDoor
