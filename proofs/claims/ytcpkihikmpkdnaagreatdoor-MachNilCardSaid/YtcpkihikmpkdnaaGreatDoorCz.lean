/- The executor's runs of MachNil: 'stepped' by itself, then the whole. -/
import Derived.Test.YtcpkihikmpkdnaaGreatDoorProg
import Derived.Test.YtcpkihikmpkdnaaGreatDoorCl
import Derived.KernelRfl
import Derived.Below
import Derived.Lib.Builder
set_option linter.unusedVariables false
set_option linter.unusedSimpArgs false
namespace Go.Proofs.YtcpkihikmpkdnaaGreatDoor
namespace Cx
noncomputable section
open Go.RowKit
def orc0 : CallF := fun _ _ _ _ => none
theorem orc0_ok (P : Program) (G : Nat) : CallOk P G orc0 := fun _ _ _ _ _ h => by cases h
def sameF (k : Nat) : FuncId → Bool := fun f => f.beq k
/-- this call, with nothing in memory -/
def orc1 (k : Nat) (G : Nat) : CallF := fun f args H n => match args, H with
  | [], .leaf => bif f.beq k && n.beq G then some (.lit (.bool true), .leaf, G) else none
  | _, _ => none
def okTrue : Option (AV × Hp × Nat) → Bool
  | some (.lit (.bool true), _, _) => true
  | _ => false
theorem okTrue_eq {r : Option (AV × Hp × Nat)} (h : okTrue r = true) : ∃ H n, r = some (.lit (.bool true), H, n) := by
  unfold okTrue at h
  split at h
  · exact ⟨_, _, rfl⟩
  · cases h
theorem memLeaf {G : Nat} {ρ : Env} {w0 w w' : World} {out : Nat → Prop} {h : Hv} {n : Nat} (M : Mem w0 out G ρ h n w) : Mem w0 out G ρ (hv .leaf) G w :=
  have e : ∀ b o, hv .leaf b = some o → False := fun b o h => by unfold hv at h; rw [Tr.get_leaf] at h; cases h
  ⟨fun b o h => (e b o h).elim, fun b o h => (e b o h).elim, fun b o h => (e b o h).elim, fun b b' o o' h => (e b o h).elim, M.outs, fun b o h => (e b o h).elim, M.glob, Nat.le_refl _, M.env⟩
theorem orc1_ok {P : Program} {G k : Nat} {C : CallF} (hc : CallOk P G C) (h : okTrue (C k [] .leaf G) = true) : CallOk P G (orc1 k G) := by
  intro f args H n r hr w0 out ρ w M hw
  unfold orc1 at hr
  split at hr
  · cases hb : (f.beq k && n.beq G) with
    | false => rw [hb] at hr; cases hr
    | true =>
      rw [hb] at hr
      cases hr
      rw [Bool.and_eq_true] at hb
      have e1 := Nat.eq_of_beq_eq_true hb.1
      have e2 := Nat.eq_of_beq_eq_true hb.2
      subst e1
      subst e2
      obtain ⟨H1, n1, h1⟩ := okTrue_eq h
      refine (hc _ _ _ _ _ h1 w0 out ρ w M hw).mono fun e w' ⟨ρ', he, hM, hρ, _, _⟩ => ⟨ρ', he, memLeaf (w' := w') hM, hρ, by simp only [AV.wf], Nat.le_refl _⟩
  · cases hr
theorem same_ok : SameOk Tryz.prog (sameF 231) := by
  intro f hf x w
  have e := Nat.eq_of_beq_eq_true hf
  subst e
  rw [run_callFunc_extern (fn := Tryz.f231) Tryz.func231 (by kernel_rfl) (by kernel_rfl) (by kernel_rfl) (by kernel_rfl), Lib.run_noEscape]
  rfl
theorem mixed : Tryz.prog.follows .mixedOrders = true := by kernel_rfl
theorem closed_calls {P : Program} {G k : Nat} {C : CallF} (hc : CallOk P G C) (h : okTrue (C k [] .leaf G) = true) (W : World) : Calls P k #[] W fun e w' => e = .returned (.bool true) ∧ Below W.heap.size W w' := by
  obtain ⟨H1, n1, h1⟩ := okTrue_eq h
  have M : Mem W (fun c => c < W.heap.size) G (fun g => ⟨g, 0, 1⟩) (hv .leaf) G W := memNil W (fun _ _ => rfl) (Nat.le_refl _)
  refine (hc _ _ _ _ _ h1 W _ _ W M (fun _ hv => by cases hv)).mono fun e w' ⟨ρ', he, hM, _, _, _⟩ => ⟨he, hM.env.1, hM.env.2.1, hM.env.2.2, ?_, fun c hc => (hM.outs c hc).2⟩
  rcases Nat.lt_or_ge w'.heap.size W.heap.size with h | h
  · have := (hM.outs _ h).1; omega
  · exact h
end
end Cx
end Go.Proofs.YtcpkihikmpkdnaaGreatDoor
