/- The executor's oracles for a workspace's law: functions of the library without a body, strings.Cut, slices.Sorted of a map's keys, deferred functions that have nothing to recover. -/
import Derived.Test.YtboondbognbnnaaGreatDoorProg
import Derived.Test.YtboondbognbnnaaGreatDoorQCl
import Derived.Test.YtboondbognbnnaaGreatDoorQShelf
import Derived.KernelRfl
import Derived.Below
import Derived.Lib.Builder
import Derived.Laws.StandIn
import Derived.RecoverIn
import Derived.Laws.Pointers
set_option linter.unusedVariables false
set_option linter.unusedSimpArgs false
set_option linter.unusedVariables false
set_option linter.unusedSimpArgs false
namespace Go.Proofs.YtboondbognbnnaaGreatDoor
namespace Cx
noncomputable section
open Go.RowKit
def extF (kN kI : Nat) : FuncId → List AV → Option AV := fun f l => match l with
  | [x] => bif f.beq kN then some x else none
  | [.lit (.string s), .lit (.int .u8 c)] => bif f.beq kI then some (.lit (.int .i64 (firstIdx s c.toNat.toUInt8))) else none
  | _ => none
theorem ext_ok : ExtOk Tryz.prog (extF 111 150) := by
  intro f l v h ρ
  unfold extF at h
  split at h
  · rename_i x
    cases hf : Nat.beq f 111 with
    | false => rw [hf] at h; cases h
    | true =>
      rw [hf] at h
      cases h
      have e := Nat.eq_of_beq_eq_true hf
      subst e
      refine ⟨fun w => ?_, fun n hw => hw _ (by simp)⟩
      rw [run_callFunc_extern (fn := Tryz.f111) Tryz.func111 (by kernel_rfl) (by kernel_rfl) (by kernel_rfl) (by kernel_rfl)]
      simp only [List.map_cons, List.map_nil]
      rw [Lib.run_noEscape]
      rfl
  · rename_i s c
    cases hf : Nat.beq f 150 with
    | false => rw [hf] at h; cases h
    | true =>
      rw [hf] at h
      cases h
      have e := Nat.eq_of_beq_eq_true hf
      subst e
      refine ⟨fun w => ?_, fun n hw => by simp only [AV.wf]⟩
      rw [run_callFunc_indexByte Tryz.func150 (by kernel_rfl) (by kernel_rfl) (by kernel_rfl) (by kernel_rfl)]
      simp only [List.map_cons, List.map_nil, AV.conc]
      rw [run_indexByte_string]
      rfl
  · cases h
/-- strings.Cut -/
def cutO (k : Nat) : CallF := fun f args H n => match args with
  | [.lit (.string s), .lit (.string c)] => bif f.beq k && Nat.blt s.data.toList.length 1048576 then (match Lib.cut s.data.toList c.data.toList with
    | (a, b, t) => some (.tup [.lit (.string ⟨a.toArray⟩), .lit (.string ⟨b.toArray⟩), .lit (.bool t)], H, n)) else none
  | _ => none
theorem cut_ok (G : Nat) : CallOk Tryz.prog G (cutO 48) := by
  intro f args H n r h w0 out ρ w M hw
  unfold cutO at h
  split at h
  · rename_i s c
    cases hf : (Nat.beq f 48 && Nat.blt s.data.toList.length 1048576) with
    | false => rw [hf] at h; cases h
    | true =>
      rw [hf] at h
      simp only [cond_true] at h
      rw [Bool.and_eq_true] at hf
      have e := Nat.eq_of_beq_eq_true hf.1
      subst e
      have hs : s.size < 4294967281 := by have := hf.2; rw [Nat.blt_eq, Array.length_toList] at this; show s.data.size < _; omega
      obtain ⟨h0, m, hm⟩ := M.env.here
      have hm' : w.cell? ⟨0, 0, none⟩ = some (.int .i64 m) := (World.cell?_of_block (a := ⟨0, 0, none⟩) (M.outs 0 h0).2).trans hm
      refine (Tryz.strings_Cut s c m w hs hm').mono ?_
      rintro e w' ⟨rfl, k, rfl⟩
      generalize Lib.cut s.data.toList c.data.toList = q at h ⊢
      obtain ⟨a, b, t⟩ := q
      cases h
      exact ⟨ρ, by simp [AV.conc, AV.concs], M.same_heap rfl, fun _ _ => rfl, by simp only [AV.wf, AV.wfs, and_self], Nat.le_refl _⟩
  · cases h
/-! ### the keys of a map, sorted -/
abbrev RV : Value → Option (DataW Value × List MemPlace) := fun v => some (.held v, [])
theorem sorted_at (p b nn : Nat) (D0 : DataW Value) (W : World) (hp : p < W.heap.size) (hm : W.cell? ⟨p, 0, none⟩ = some (.map (some b))) (hown : W.ownsMap Tryz.prog 9 RV b nn D0) (hmax : Maps.size D0 ≤ maxLen) (hbytes : Maps.size D0 * 16 ≤ 140737488355328) :
    Calls Tryz.prog 25 #[.func (.func 51) #[] #[.pointer (some ⟨p, 0, none⟩)]] W fun e w' => ∃ (v : Value) (ss : List (List UInt8)), e = .returned v ∧ ss.Perm (strKeys D0) ∧
      w'.ownsRow W.heap.size 9 1 v ss.length ((ss.mergeSort leB).map encStr) ∧ (v = .slice none 0 0 ↔ ss = []) ∧ Below W.heap.size W w' := by
  have hseq : SeqGives Fence.wide 2 Tryz.prog 51 #[.pointer (some ⟨p, 0, none⟩)] encStr (fun ss => ss.Perm (strKeys D0)) (Maps.size D0) W :=
    AnyZ.keys_gives (ρ := Tryz.keys26_ren) { Tryz.keys26 with } Fence.wide _ trivial rfl (by omega) p b nn D0 _ hp hm hown
  exact callsIn_wide.1 (AnyZ.sorted_in Tryz.sorted25 Fence.wide 5 trivial trivial trivial trivial rfl (by omega) (Tryz.sorts25 _) (enters_of Tryz.func41 (by kernel_rfl) rfl) 51 #[.pointer (some ⟨p, 0, none⟩)] trivial (enters_of Tryz.func51 (by kernel_rfl) rfl) _ _ hmax hbytes _ hseq)
end
end Cx
end Go.Proofs.YtboondbognbnnaaGreatDoor
