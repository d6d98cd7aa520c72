/- Deferred functions that have nothing to recover do nothing. -/
import Derived.Test.YtboondbognbnnaaGreatDoorQCu
set_option linter.unusedVariables false
set_option linter.unusedSimpArgs false
set_option linter.unusedVariables false
set_option linter.unusedSimpArgs false
namespace Go.Proofs.YtboondbognbnnaaGreatDoor
namespace Cx
noncomputable section
open Go.RowKit
set_option maxRecDepth 100000
def two : List AV → Bool
  | [_, _] => true
  | _ => false
theorem two_ok {l : List AV} (h : two l = true) : ∃ x y, l = [x, y] := by
  unfold two at h
  split at h
  · exact ⟨_, _, rfl⟩
  · cases h
def idleF (a b c : Nat) : FuncId → List AV → Bool := fun f l => (f.beq a || f.beq b || f.beq c) && two l
abbrev Idle (f : FuncId) : Prop := ∀ (m : Nat) (x y : Value) (w : World), CallsDIn (FW none) m Tryz.prog f #[x, y] .returning w fun e u' w' => (∃ v, e = .returned v) ∧ u' = .returning ∧ Below w.heap.size w w'
theorem idle_fix : Idle 44 := by
  intro m p q w
  refine callsDIn_of_wpSIn Tryz.func44 rfl trivial fun c₀ cs hu => ?_
  apply wpSIn_seq
  apply wpSIn_region
  simp [wpOpsSIn, go_sem, recoverD, hu, Tryz.ntmps44, Exit.thenS]
  apply wpSIn_seq
  apply wpSIn_region
  simp [wpOpsSIn, go_sem, Exit.thenS]
  refine wpSIn_cond (t := false) (by simp [Act.eval, Array.replicate]) ?_
  simp only [Bool.false_eq_true, if_false]
  refine wpSIn_of_wpIn rfl (wpIn_skip ?_)
  cases c₀
  simp_all [bodyPostS, results, Tryz.results44]
  exact Below.refl _ _
theorem idle_written : Idle 77 := by
  intro m p q w
  refine callsDIn_of_wpSIn Tryz.func77 rfl trivial fun c₀ cs hu => ?_
  apply wpSIn_seq
  apply wpSIn_region
  simp [wpOpsSIn, go_sem, recoverD, hu, Tryz.ntmps77, Exit.thenS]
  apply wpSIn_seq
  apply wpSIn_region
  simp [wpOpsSIn, go_sem, Exit.thenS]
  refine wpSIn_cond (t := false) (by simp [Act.eval, Array.replicate]) ?_
  simp only [Bool.false_eq_true, if_false]
  refine wpSIn_of_wpIn rfl (wpIn_skip ?_)
  cases c₀
  simp_all [bodyPostS, results, Tryz.results77]
  exact Below.refl _ _
theorem assert_nil (w : World) : (Instr.typeAssert .nilIface 20 204 true).run Tryz.prog w = .ok (.tuple #[.agg #[.int .i64 0, .int .i64 0], .bool false]) w := by kernel_rfl
theorem idle_read : Idle 141 := by
  intro m p q w
  refine callsDIn_of_wpSIn Tryz.func141 rfl trivial fun c₀ cs hu => ?_
  apply wpSIn_seq
  apply wpSIn_region
  simp [wpOpsSIn, go_sem, recoverD, hu, Tryz.ntmps141, Exit.thenS, assert_nil]
  apply wpSIn_seq
  apply wpSIn_region
  simp [wpOpsSIn, go_sem, Exit.thenS]
  refine wpSIn_cond (t := false) (by simp [Act.eval, Array.replicate]) ?_
  simp only [Bool.false_eq_true, if_false]
  refine wpSIn_of_wpIn rfl (wpIn_skip ?_)
  cases c₀
  simp_all [bodyPostS, results, Tryz.results141]
  exact (Below.refl _ _).alloc (Nat.le_refl _) _
theorem idle_ok : IdleOk Tryz.prog (idleF 44 77 141) := by
  intro f l h m ρ w
  unfold idleF at h
  rw [Bool.and_eq_true, Bool.or_eq_true, Bool.or_eq_true] at h
  obtain ⟨x, y, rfl⟩ := two_ok h.2
  simp only [List.map_cons, List.map_nil]
  rcases h.1 with (h | h) | h
  · have e := Nat.eq_of_beq_eq_true h; subst e; exact idle_fix m _ _ w
  · have e := Nat.eq_of_beq_eq_true h; subst e; exact idle_written m _ _ w
  · have e := Nat.eq_of_beq_eq_true h; subst e; exact idle_read m _ _ w
end
end Cx
end Go.Proofs.YtboondbognbnnaaGreatDoor
