/- Package term: operand, pattern, is. -/
import Derived.Test.YtnnhbpgpkpbinaaGreatTerm3
namespace Go.Proofs.YtnnhbpgpkpbinaaGreat
open Go.RowKit

theorem pattern_calls (k : Int) (w : World) : Calls Tryz.prog 77 #[.int .i64 k] w fun e w' => e = .returned (.string (T.txt (T.pattern k))) ∧ w = w' := by
  go_enter Tryz.func77, Tryz.ntmps77
  go_wp2_with fail
  all_goals go_ret
  all_goals refine ⟨?_, rfl⟩
  all_goals first | rfl | (simp_all [T.pattern, T.txt]; done) | skip

theorem operand_calls (x : TV) (w : World) : Calls Tryz.prog 84 #[x.val] w fun e w' => e = .returned (.bool (T.operandK x.kind x.text.data.toList)) ∧ Below w.heap.size w w' := by
  obtain ⟨kind, text, n, sa, sl, sc, aa, al, ac, ka, kl, kc⟩ := x
  simp only [TV.val, TV.cells]
  go_enter Tryz.func84, Tryz.ntmps84
  go_wp2_with fail
  all_goals go_ret
  all_goals refine ⟨?_, (Below.refl _ _).alloc (Nat.le_refl _) _⟩
  all_goals simp_all [T.operandK, ByteArray.toList_eq, bne]

/-- is a kid of a letter? -/
def T.isK (k : Int) (s : List UInt8) (c : Int) : Bool :=
  if c = 110 then T.cls k == 1 else if c = 118 then T.cls k == 3 else if c = 98 then k == 14 else if c = 111 then T.operandK k s else T.cls k == 2 && k != 14

theorem is_calls (x : TV) (c : Int) (w : World) : Calls Tryz.prog 78 #[x.val, .int .u8 c] w fun e w' => e = .returned (.bool (T.isK x.kind x.text.data.toList c)) ∧ Below w.heap.size w w' := by
  have hC := fun W => class_calls x W
  have hO := fun W => operand_calls x W
  obtain ⟨kind, text, n, sa, sl, sc, aa, al, ac, ka, kl, kc⟩ := x
  simp only [TV.val, TV.cells] at hC hO ⊢
  have HC := Lib.hid hC
  have HO := Lib.hid hO
  clear hC hO
  go_enter Tryz.func78, Tryz.ntmps78
  go_wp2_with (first
    | (go_at_call 34; refine (HC.out _).mono ?_; rintro e w1 ⟨rfl, hb⟩; obtain ⟨hc, hf⟩ := bcell hb; have hs := hb.size; (try simp at hs); have hz : w.heap.size < w1.heap.size := (by omega))
    | (go_at_call 84; refine (HO.out _).mono ?_; rintro e w1 ⟨rfl, hb⟩; obtain ⟨hc, hf⟩ := bcell hb))
  all_goals go_ret
  all_goals refine ⟨?_, ?_⟩
  all_goals first
    | (with_reducible exact (Below.refl _ _).alloc (Nat.le_refl _) _)
    | (with_reducible exact Below.trans ((Below.refl _ _).alloc (Nat.le_refl _) _) (hb.mono (by simp)))
    | (clear hc hf hb; simp_all [T.isK, bne]; done)
    | (simp_all [T.isK, bne]; done)
    | skip
end Go.Proofs.YtnnhbpgpkpbinaaGreat
