/- A verified executor of closed calls, part 9: orders of a region that draws its order. -/
import Derived.Test.YtcpkihikmpkdnaaGreatDoorCh
set_option linter.unusedVariables false
set_option linter.unusedSimpArgs false
namespace Go.Proofs.YtcpkihikmpkdnaaGreatDoor
namespace Cx
noncomputable section
/-! ### who hangs on whom -/
def maskOf (done : List Nat) (o : Oper) : Nat := o.after.toList.foldl (fun s e => bif Region.binds .any e then s ||| 2 ^ e.on ||| done.getD e.on 0 else s) 0
def masks : List Oper → List Nat → List Nat
  | [], d => d
  | o :: l, d => masks l (d ++ [maskOf d o])
def Closed (ops : Array Oper) (listed : Array Bool) : Prop := ∀ x ox, ops[x]? = some ox → listed.getD x true = true → ∀ e ∈ ox.after, Region.binds .any e = true → listed.getD e.on false = true
def DepsIn (listed : Array Bool) (o : Oper) : Prop := ∀ e ∈ o.after, Region.binds .any e = true → listed.getD e.on false = true
theorem maskOf_bit {done : List Nat} {o : Oper} {k : Nat} (h : (maskOf done o).testBit k = true) : ∃ e ∈ o.after, Region.binds .any e = true ∧ (k = e.on ∨ (done.getD e.on 0).testBit k = true) := by
  have key : ∀ (l : List Edge) (s : Nat), ((l.foldl (fun s e => bif Region.binds .any e then s ||| 2 ^ e.on ||| done.getD e.on 0 else s) s).testBit k = true) → s.testBit k = true ∨ ∃ e ∈ l, Region.binds .any e = true ∧ (k = e.on ∨ (done.getD e.on 0).testBit k = true) := by
    intro l
    induction l with
    | nil => intro s h; exact .inl h
    | cons e l ih =>
      intro s h
      rw [List.foldl_cons] at h
      rcases ih _ h with h | ⟨e', he', hb⟩
      · cases hb : Region.binds .any e with
        | false => rw [hb] at h; exact .inl h
        | true =>
          rw [hb] at h
          simp only [cond_true, Nat.testBit_or, Bool.or_eq_true] at h
          rcases h with (h | h) | h
          · exact .inl h
          · rw [Nat.testBit_two_pow] at h
            exact .inr ⟨e, by simp, hb, .inl (by simpa using (of_decide_eq_true h).symm)⟩
          · exact .inr ⟨e, by simp, hb, .inr h⟩
      · exact .inr ⟨e', by simp [he'], hb⟩
  rcases key _ _ h with h | ⟨e, he, hb⟩
  · simp at h
  · exact ⟨e, Array.mem_toList_iff.1 he, hb⟩
theorem masks_ok {ops : Array Oper} : ∀ (l : List Oper) (d : List Nat), (∀ j, l[j]? = ops[d.length + j]?) →
    (∀ (j m : Nat) (oj : Oper), d[j]? = some m → ops[j]? = some oj → ∀ listed, Closed ops listed → DepsIn listed oj → ∀ k, m.testBit k = true → listed.getD k false = true) →
    (∀ (j m : Nat) (oj : Oper), (masks l d)[j]? = some m → ops[j]? = some oj → ∀ listed, Closed ops listed → DepsIn listed oj → ∀ k, m.testBit k = true → listed.getD k false = true)
  | [], d, _, h => h
  | o :: l, d, hl, h => by
    simp only [masks]
    refine masks_ok l _ (fun j => by have := hl (j + 1); simpa [Nat.add_assoc, Nat.add_comm 1 j] using this) ?_
    intro j m oj hj hoj listed hcl hdep k hk
    rw [List.getElem?_append] at hj
    split at hj
    · exact h j m oj hj hoj listed hcl hdep k hk
    · rename_i hlt
      have e0 : j = d.length := by
        have := (List.getElem?_eq_some_iff.1 hj).1
        simp at this; omega
      subst e0
      simp at hj
      subst hj
      have ho : ops[d.length]? = some o := by have := hl 0; simpa using this.symm
      rw [ho] at hoj
      cases hoj
      obtain ⟨e, he, hb, hk'⟩ := maskOf_bit hk
      have hon := hdep e he hb
      rcases hk' with rfl | hk'
      · exact hon
      · rw [List.getD_eq_getElem?_getD] at hk'
        cases hd : d[e.on]? with
        | none => rw [hd] at hk'; simp at hk'
        | some m' =>
          rw [hd] at hk'
          have hlt' : e.on < d.length := (List.getElem?_eq_some_iff.1 hd).1
          cases hox : ops[e.on]? with
          | none =>
            have h1 := Array.getElem?_eq_none_iff.1 hox
            have h2 := (Array.getElem?_eq_some_iff.1 ho).1
            omega
          | some ox =>
            have hon' : listed.getD e.on true = true := by
              simp only [Array.getD_eq_getD_getElem?] at hon ⊢
              cases hc : listed[e.on]? with
              | none => rfl
              | some b => rw [hc] at hon; simpa using hon
            exact h e.on m' ox hd hox listed hcl (hcl e.on ox hox hon') k hk'
/-- neither waits for the other -/
def inc (ms : List Nat) (i k : Nat) : Bool := !((ms.getD i 0).testBit k) && !((ms.getD k 0).testBit i)
section
variable {P : Program} {ops : Array Oper} {Q : Exit → Act → World → Prop} {S : Nat → World → Prop} {ms : List Nat}
theorem inc_of_ready (hms : ms = masks ops.toList []) {listed : Array Bool} (hcl : Closed ops listed) {i j : Nat} (hi : i ∈ Region.ready .any ops listed) (hj : j ∈ Region.ready .any ops listed) : inc ms j i = true := by
  have base : ∀ (j m : Nat) (oj : Oper), ms[j]? = some m → ops[j]? = some oj → ∀ listed, Closed ops listed → DepsIn listed oj → ∀ k, m.testBit k = true → listed.getD k false = true := by
    rw [hms]
    exact masks_ok ops.toList [] (fun j => by simp) (fun j m oj h => by simp at h)
  have key : ∀ x y, x ∈ Region.ready .any ops listed → y ∈ Region.ready .any ops listed → (ms.getD x 0).testBit y = false := by
    intro x y hx hy
    obtain ⟨hx1, ox, hox, hxd⟩ := mem_ready.1 hx
    obtain ⟨hy1, oy, hoy, hyd⟩ := mem_ready.1 hy
    cases hb : (ms.getD x 0).testBit y with
    | false => rfl
    | true =>
      rw [List.getD_eq_getElem?_getD] at hb
      cases hm : ms[x]? with
      | none => rw [hm] at hb; simp at hb
      | some m =>
        rw [hm] at hb
        have h1 := base x m ox hm hox listed hcl hxd y hb
        exfalso
        simp only [Array.getD_eq_getD_getElem?] at hy1 h1
        cases hc : listed[y]? with
        | none => rw [hc] at h1; simp at h1
        | some b => rw [hc] at h1 hy1; simp at h1 hy1; rw [h1] at hy1; cases hy1
  simp only [inc, key j i hj hi, key i j hi hj, Bool.not_false, Bool.and_self]
theorem closed_set {listed : Array Bool} (hcl : Closed ops listed) {j : Nat} (hj : j ∈ Region.ready .any ops listed) : Closed ops (listed.setIfInBounds j true) := by
  obtain ⟨hj1, oj, hoj, hjd⟩ := mem_ready.1 hj
  intro x ox hox hx e he hb
  refine getD_set_true ?_
  by_cases hxj : j = x
  · subst hxj
    rw [hoj] at hox
    cases hox
    exact hjd e he hb
  · rw [getD_set_ne true hxj] at hx
    exact hcl x ox hox hx e he hb
theorem closed_none : Closed ops (Array.replicate ops.size false) := by
  intro x ox hox hx e he hb
  have := (Array.getElem?_eq_some_iff.1 hox).1
  simp [Array.getD_eq_getD_getElem?, this] at hx
/-- no 'defer' among them -/
def noDefer (ops : Array Oper) : Bool := ops.all fun o => match o.op with | .defer _ => false | _ => true
theorem noDefer_spec (h : noDefer ops = true) (j : Nat) (o : Oper) (c : Call) (ho : ops[j]? = some o) : o.op ≠ .defer c := by
  intro hc
  have := Array.all_eq_true'.1 h o (Array.mem_of_getElem? ho)
  rw [hc] at this
  cases this
variable {ro : Option Nat} {m : Nat}
theorem yields_wpOpIn {S : World → Prop} {i : Nat} {o : Oper} {v : Value} {a : Act} (hnd : ∀ c, o.op ≠ .defer c) (hi : ops[i]? = some o) (hy : YieldsIf P ops S o v a)
    {K : Act → World → Prop} {w : World} (hS : S w) (h : K (a.put o.dst v) w) : wpOpIn (FW ro) m P ops Q i K a w := by
  unfold Go.wpOpIn
  simp only [hi]
  rcases hy with ⟨hw, hv⟩ | ⟨hw, rfl⟩
  · simp only [hw, if_true]
    refine ⟨fun _ _ => trivial, ?_⟩
    rw [semAt_eq hnd, hv w hS]
    exact h
  · simp only [hw, Bool.false_eq_true, if_false]
    exact ⟨fun _ _ => trivial, h⟩
theorem wpOpIn_putIf {S : World → Prop} {j : Nat} {oi oj : Oper} {v : Value} (hnd : ∀ c, oj.op ≠ .defer c) (hj : ops[j]? = some oj) (hap : oi.apart ops oj = true)
    (hsi : ∀ cs b, oi.op ≠ .select cs b) (hsj : ∀ cs b, oj.op ≠ .select cs b)
    (hQ : ∀ c a w, Q (.panic c) (a.put oi.dst v) w → Q (.panic c) a w) {K : Act → World → Prop} {a : Act} {w : World}
    (hy : YieldsIf P ops S oi v a) (h : wpOpIn (FW ro) m P ops Q j K (a.put oi.dst v) w) :
    wpOpIn (FW ro) m P ops Q j (fun a' w' => YieldsIf P ops S oi v a' ∧ K (a'.put oi.dst v) w') a w := by
  obtain ⟨h1, h2, h3⟩ := Oper.apart_spec hap
  have keep : ∀ (a : Act), YieldsIf P ops S oi v a → ∀ u, YieldsIf P ops S oi v (a.put oj.dst u) := fun a hy u =>
    hy.of_same (execOp_put oi hsi a oj.dst u h3) (wanted_put oi a oj.dst u h3)
  unfold Go.wpOpIn at *
  simp only [hj] at *
  rw [wanted_put oj a oi.dst v h1] at h
  split
  · rename_i hw
    simp only [hw, if_true] at h
    refine ⟨fun _ _ => trivial, ?_⟩
    have h := h.2
    rw [semAt_eq hnd, execOp_put oj hsj a oi.dst v h1] at h
    rw [semAt_eq hnd]
    generalize (execOp a.eval oj).run P w = r at *
    cases r with
    | ok x w' =>
      cases x <;> simp only [Oper.uponIn] at h ⊢
      case value u => exact ⟨keep a hy u, by rw [← Act.put_comm a v u h2]; exact h⟩
      case skip => exact ⟨keep a hy _, by rw [← Act.put_comm a v undef h2]; exact h⟩
      case defer d =>
        have hyd : YieldsIf P ops S oi v { a with defers := d :: a.defers } := hy.of_same rfl rfl
        refine ⟨keep _ hyd _, ?_⟩
        rw [← Act.put_comm _ v undef h2, ← Act.put_defers]
        exact h
      case enter f args =>
        refine ⟨h.1, CallsIn.mono h.2 fun e w'' he => ?_⟩
        cases e with
        | returned u => exact ⟨keep a hy u, by rw [← Act.put_comm a v u h2]; exact he⟩
        | panicked c => exact hQ _ _ _ he
        | outgrown => exact he
      case row row args => exact ⟨h.1, RowsIn.mono h.2 fun u w'' he => ⟨keep a hy u, by rw [← Act.put_comm a v u h2]; exact he⟩⟩
      case round l f tmps assign body =>
        refine ⟨h.1, RoundIn.mono h.2 fun e w'' he => ?_⟩
        cases e with
        | returned u => exact ⟨keep a hy u, by rw [← Act.put_comm a v u h2]; exact he⟩
        | panicked c => exact hQ _ _ _ he
        | outgrown => exact he
    | halt x w' =>
      cases x <;> simp only [Oper.uponIn] at h ⊢
      case panic u => exact hQ _ _ _ h
  · rename_i hw
    simp only [hw] at h
    exact ⟨fun _ _ => trivial, keep a hy _, by rw [← Act.put_comm a v undef h2]; exact h.2⟩
/-- whatever order is picked from here on; behind each operation what those that wait not for it, nor it for them, have loaded is as it was -/
def wpAnyK (ro : Option Nat) (m : Nat) (P : Program) (ops : Array Oper) (Q : Exit → Act → World → Prop) (S : Nat → World → Prop) (ms : List Nat) : Nat → Array Bool → Act → World → Prop
  | 0, listed, a, w => Region.ready .any ops listed = [] ∧ Q .normal a w
  | fuel + 1, listed, a, w =>
    (Region.ready .any ops listed = [] → Q .normal a w) ∧
    ∀ i ∈ Region.ready .any ops listed, wpOpIn (FW ro) m P ops Q i (fun a' w' => (∀ k, inc ms i k = true → S k w → S k w') ∧ wpAnyK ro m P ops Q S ms fuel (listed.setIfInBounds i true) a' w') a w
theorem wpAnyIn_of_K : ∀ (fuel : Nat) (listed : Array Bool) (a : Act) (w : World), wpAnyK ro m P ops Q S ms fuel listed a w → wpAnyIn (FW ro) m P .any ops Q fuel listed a w
  | 0, _, _, _, h => h
  | fuel + 1, _, _, _, h => ⟨h.1, fun i hi => wpOpIn_mono (fun a' w' h' => wpAnyIn_of_K fuel _ a' w' h'.2) (h.2 i hi)⟩
theorem wpAnyK_done {listed : Array Bool} {a : Act} {w : World} (hr : Region.ready .any ops listed = []) (h : Q .normal a w) : ∀ fuel, wpAnyK ro m P ops Q S ms fuel listed a w
  | 0 => ⟨hr, h⟩
  | _ + 1 => ⟨fun _ => h, by rw [hr]; simp⟩
theorem wpAnyK_first (hms : ms = masks ops.toList []) {i : Nat} {oi : Oper} {v : Value} {S' : World → Prop} (hi : ops[i]? = some oi) (hsel : ∀ (j : Nat) (o : Oper) cs b, ops[j]? = some o → o.op ≠ .select cs b) (hnd : ∀ (j : Nat) (o : Oper) c, ops[j]? = some o → o.op ≠ .defer c)
    (hQ : ∀ c a w, Q (.panic c) (a.put oi.dst v) w → Q (.panic c) a w) (hS' : ∀ j w w', (∀ k, inc ms j k = true → S k w → S k w') → inc ms j i = true → S' w → S' w') :
    ∀ (fuel : Nat) (listed : Array Bool) (a : Act) (w : World), Closed ops listed →
      (∀ j oj, ops[j]? = some oj → j ≠ i → listed.getD j true = false → (∀ e ∈ oj.after, Region.binds .any e = true → e.on ≠ i) → oi.apart ops oj = true) →
      i ∈ Region.ready .any ops listed → YieldsIf P ops S' oi v a → S' w →
      wpAnyK ro m P ops Q S ms fuel (listed.setIfInBounds i true) (a.put oi.dst v) w → wpAnyK ro m P ops Q S ms (fuel + 1) listed a w := by
  intro fuel
  induction fuel with
  | zero =>
    intro listed a w _ _ hr hy hS H
    refine ⟨fun h => (by rw [h] at hr; cases hr), fun j hj => ?_⟩
    by_cases hji : j = i
    · subst hji; exact yields_wpOpIn (fun c => hnd j oi c hi) hi hy hS ⟨fun _ _ h => h, H⟩
    · have := ready_mono hj hji
      rw [H.1] at this
      cases this
  | succ fuel ih =>
    intro listed a w hcl hfree hr hy hS H
    refine ⟨fun h => (by rw [h] at hr; cases hr), fun j hj => ?_⟩
    by_cases hji : j = i
    · subst hji; exact yields_wpOpIn (fun c => hnd j oi c hi) hi hy hS ⟨fun _ _ h => h, H⟩
    · have h1 := H.2 j (ready_mono hj hji)
      have hinc := inc_of_ready hms hcl hr hj
      obtain ⟨hjun, oj, hoj, hall⟩ := mem_ready.1 hj
      have hnot : ∀ e ∈ oj.after, Region.binds .any e = true → e.on ≠ i := fun e he hb heq => by
        have h1 := hall e he hb
        have h0 := (mem_ready.1 hr).1
        rw [heq] at h1
        rcases Nat.lt_or_ge i listed.size with h' | h'
        · simp [h'] at h0 h1; rw [h0] at h1; cases h1
        · simp [Array.getElem?_eq_none h'] at h1
      have h2 := wpOpIn_putIf (fun c => hnd j oj c hoj) hoj (hfree j oj hoj hji hjun hnot) (fun cs b => hsel i oi cs b hi) (fun cs b => hsel j oj cs b hoj) hQ hy h1
      have hfree' : ∀ k ok, ops[k]? = some ok → k ≠ i → (listed.setIfInBounds j true).getD k true = false →
          (∀ e ∈ ok.after, Region.binds .any e = true → e.on ≠ i) → oi.apart ops ok = true := fun k ok hk hki hun hno => by
        refine hfree k ok hk hki ?_ hno
        by_cases hjk : j = k
        · subst hjk; exact hjun
        · rw [getD_set_ne true hjk] at hun; exact hun
      refine wpOpIn_mono (fun a' w' h3 => ⟨h3.2.1, ih (listed.setIfInBounds j true) a' w' (closed_set hcl hj) hfree' (ready_mono hr (Ne.symm hji)) h3.1 (hS' j w w' h3.2.1 hinc hS) ?_⟩) h2
      rw [Array.setIfInBounds_comm _ _ hji]
      exact h3.2.2
end
end
end Cx
end Go.Proofs.YtcpkihikmpkdnaaGreatDoor
