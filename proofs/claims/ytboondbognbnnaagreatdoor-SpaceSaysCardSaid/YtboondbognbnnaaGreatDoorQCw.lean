/- The two oracles as one; closed calls. -/
import Derived.Test.YtboondbognbnnaaGreatDoorQCv
import Derived.Test.YtboondbognbnnaaGreatDoorQPrimB
set_option linter.unusedVariables false
set_option linter.unusedSimpArgs false
set_option linter.unusedVariables false
set_option linter.unusedSimpArgs false
namespace Go.Proofs.YtboondbognbnnaaGreatDoor
namespace Cx
noncomputable section
open Go.RowKit
def orE (k : Nat) (a b : CallF) : CallF := fun f args H n => bif f.beq k then a f args H n else b f args H n
theorem orE_ok {P : Program} {G k : Nat} {a b : CallF} (ha : CallOk P G a) (hb : CallOk P G b) : CallOk P G (orE k a b) := by
  intro f args H n r h
  unfold orE at h
  cases hf : f.beq k with
  | true => rw [hf] at h; exact ha f args H n r h
  | false => rw [hf] at h; exact hb f args H n r h
/-- prim.Of, by its contract -/
def primO : CallF := fun _ args H n => match args with
  | [.lit (.string s)] => bif Nat.blt s.data.toList.length 1000 then some (.tup [.lit (.int .i64 (T.primNo s.data.toList)), .lit (.bool (T.isPrim s.data.toList))], H, n) else none
  | _ => none
def onlyO (k : Nat) (a : CallF) : CallF := fun f args H n => bif f.beq k then a f args H n else none
theorem prim_ok (G : Nat) : CallOk Tryz.prog G (onlyO 90 primO) := by
  intro f args H n r h w0 out ρ w M hw
  unfold onlyO at h
  cases hf : Nat.beq f 90 with
  | false => rw [hf] at h; cases h
  | true =>
    rw [hf] at h
    have e := Nat.eq_of_beq_eq_true hf
    subst e
    simp only [cond_true] at h
    unfold primO at h
    split at h
    · rename_i s
      cases hs : Nat.blt s.data.toList.length 1000 with
      | false => rw [hs] at h; cases h
      | true =>
        rw [hs] at h
        cases h
        have hs : s.size ≤ maxLen := by rw [Nat.blt_eq, Array.length_toList] at hs; show s.data.size ≤ _; unfold maxLen; omega
        refine (prim_calls s w hs).mono ?_
        rintro e w' ⟨rfl, hb⟩
        exact ⟨ρ, by simp [AV.conc, AV.concs], M.later hb, fun _ _ => rfl, by simp only [AV.wf, AV.wfs, and_self], Nat.le_refl _⟩
    · cases h
/-- the names Add and a -/
def twoNames : List (List UInt8) := [[65, 100, 100], [97]]
def orcB : CallF := orE 48 (cutO 48) (orE 25 (sortO 25 51 twoNames) (onlyO 90 primO))
theorem orcB_ok (G : Nat) : CallOk Tryz.prog G orcB :=
  orE_ok (cut_ok G) (orE_ok (sort_ok G (List.mergeSort_of_pairwise (by decide)) (by decide) (by decide) (by decide) (by decide)) (prim_ok G))
theorem mixed : Tryz.prog.follows .mixedOrders = true := by kernel_rfl
abbrev extB := extF 111 150
abbrev idleB := idleF 44 77 141
def okTrue : Option (AV × Hp × Nat) → Bool
  | some (.lit (.bool true), _, _) => true
  | _ => false
theorem okTrue_eq {r : Option (AV × Hp × Nat)} (h : okTrue r = true) : ∃ H n, r = some (.lit (.bool true), H, n) := by
  unfold okTrue at h
  split at h
  · exact ⟨_, _, rfl⟩
  · cases h
theorem closed_calls {P : Program} {G k : Nat} {C : CallF} (hc : CallOk P G C) (h : okTrue (C k [] .leaf G) = true) (W : World) (hh : Here W (fun c => c < W.heap.size)) : Calls P k #[] W fun e w' => e = .returned (.bool true) ∧ Below W.heap.size W w' := by
  obtain ⟨H1, n1, h1⟩ := okTrue_eq h
  have M : Mem W (fun c => c < W.heap.size) G (fun g => ⟨g, 0, 1⟩) (hv .leaf) G W := memNil W (fun _ _ => rfl) (Nat.le_refl _) hh
  refine (hc _ _ _ _ _ h1 W _ _ W M (fun _ hv => by cases hv)).mono fun e w' ⟨ρ', he, hM, _, _, _⟩ => ⟨he, hM.env.same.1, hM.env.same.2.1, hM.env.same.2.2, ?_, fun c hc => (hM.outs c hc).2⟩
  rcases Nat.lt_or_ge w'.heap.size W.heap.size with h | h
  · have := (hM.outs _ h).1; omega
  · exact h
end
end Cx
end Go.Proofs.YtboondbognbnnaaGreatDoor
