/- A verified executor of closed calls, part 11: which operation may come when, in numbers. -/
import Derived.Test.YtcpkihikmpkdnaaGreatDoorCj
set_option linter.unusedVariables false
set_option linter.unusedSimpArgs false
namespace Go.Proofs.YtcpkihikmpkdnaaGreatDoor
namespace Cx
noncomputable section
def isTake (o : Oper) : Bool :=
  match o.op with
  | .move _ | .assign _ | .pick .. | .build .. | .nilCheck _ | .binOp .. | .unOp .. | .convert .. | .makeInterface .. | .makeFunc .. | .slice .. | .fieldAddr .. | .field .. | .indexAddr .. | .index .. | .extract .. | .typeAssert .. | .load .. => true
  | .call c => match c.callee with
    | .builtin .len | .builtin .cap | .builtin .min | .builtin .max => true
    | _ => false
  | _ => false
/-- makes a block, asks nothing of those that lie -/
def isFlt (o : Oper) : Bool :=
  match o.op with
  | .alloc _ | .box .. | .makeMap .. => true
  | .buildSlice .. => true
  | _ => false
/-! ### sets of small numbers -/
def bit (m j : Nat) : Bool := (Nat.land (Nat.shiftRight m j) 1).beq 1
theorem bit_eq (m j : Nat) : bit m j = m.testBit j := by
  unfold bit
  rw [Tr.beq_dec]
  show decide ((m >>> j) &&& 1 = 1) = m.testBit j
  rw [Nat.testBit, Nat.and_one_is_mod, Nat.one_and_eq_mod_two]
  rcases Nat.mod_two_eq_zero_or_one (m >>> j) with h | h <;> rw [h] <;> rfl
def sub (a m : Nat) : Bool := (Nat.land a m).beq a
theorem sub_iff {a m : Nat} : sub a m = true ↔ ∀ j, a.testBit j = true → m.testBit j = true := by
  unfold sub
  rw [Tr.beq_dec, decide_eq_true_iff]
  show (a &&& m = a) ↔ _
  constructor
  · intro h j hj
    rw [← h, Nat.testBit_and, Bool.and_eq_true] at hj
    exact hj.2
  · intro h
    apply Nat.eq_of_testBit_eq
    intro j
    rw [Nat.testBit_and]
    cases hj : a.testBit j with
    | false => rfl
    | true => rw [h j hj]; rfl
def with1 (m i : Nat) : Nat := Nat.lor m (Nat.pow 2 i)
theorem with1_bit (m i j : Nat) : (with1 m i).testBit j = (m.testBit j || decide (i = j)) := by
  show (m ||| 2 ^ i).testBit j = _
  rw [Nat.testBit_or, Nat.testBit_two_pow]
def needL : List Edge → Nat
  | [] => 0
  | e :: l => bif Region.binds .any e then with1 (needL l) e.on else needL l
theorem needL_bit : ∀ (l : List Edge) (k : Nat), (needL l).testBit k = true ↔ ∃ e ∈ l, Region.binds .any e = true ∧ e.on = k
  | [], k => by simp [needL]
  | e :: l, k => by
    have ih := needL_bit l k
    cases hb : Region.binds .any e with
    | false =>
      simp only [needL, hb, cond_false, ih]
      constructor
      · rintro ⟨x, hx, h⟩; exact ⟨x, by simp [hx], h⟩
      · rintro ⟨x, hx, h⟩
        rcases List.mem_cons.1 hx with rfl | hx
        · rw [hb] at h; cases h.1
        · exact ⟨x, hx, h⟩
    | true =>
      simp only [needL, hb, cond_true, with1_bit, Bool.or_eq_true, ih, decide_eq_true_iff]
      constructor
      · rintro (⟨x, hx, h⟩ | h)
        · exact ⟨x, by simp [hx], h⟩
        · exact ⟨e, by simp, hb, h⟩
      · rintro ⟨x, hx, h⟩
        rcases List.mem_cons.1 hx with rfl | hx
        · exact .inr h.2
        · exact .inl ⟨x, hx, h⟩
def setOf : List Nat → Nat
  | [] => 0
  | t :: l => with1 (setOf l) t
theorem setOf_bit : ∀ (l : List Nat) (k : Nat), (setOf l).testBit k = true ↔ k ∈ l
  | [], k => by simp [setOf]
  | t :: l, k => by simp only [setOf, with1_bit, Bool.or_eq_true, setOf_bit l k, decide_eq_true_iff, List.mem_cons]; constructor <;> (rintro (h | h)) <;> first | exact .inl h.symm | exact .inr h.symm | exact .inl h | exact .inr h
structure Row where
  need : Nat
  rd : Nat
  wr : Nat
  tk : Bool
  fl : Bool
def noGuard (o : Oper) : Bool := match o.guard with | none => true | some _ => false
def rowOf (ops : Array Oper) (o : Oper) : Row := ⟨needL o.after.toList, setOf (o.looksAt ops), setOf o.dst.toList, isTake o, isFlt o && noGuard o⟩
def disj (a b : Nat) : Bool := (Nat.land a b).beq 0
theorem disj_spec {a b : Nat} (h : disj a b = true) (j : Nat) (ha : a.testBit j = true) : b.testBit j = false := by
  unfold disj at h
  have h := Nat.eq_of_beq_eq_true h
  cases hb : b.testBit j with
  | false => rfl
  | true =>
    have : (a &&& b).testBit j = true := by rw [Nat.testBit_and, ha, hb]; rfl
    rw [show a &&& b = 0 from h] at this
    simp at this
def apartM (r s : Row) : Bool := disj r.wr s.rd && disj r.wr s.wr && disj s.wr r.rd
theorem apartM_ok {ops : Array Oper} {x y : Oper} (h : apartM (rowOf ops x) (rowOf ops y) = true) : x.apart ops y = true := by
  simp only [apartM, rowOf, Bool.and_eq_true] at h
  obtain ⟨⟨h1, h2⟩, h3⟩ := h
  have n1 : ∀ d, x.dst = some d → (y.looksAt ops).contains d = false := fun d hd => by
    have := disj_spec h1 d ((setOf_bit _ _).2 (by simp [hd]))
    cases hc : (y.looksAt ops).contains d with
    | false => rfl
    | true => rw [(setOf_bit _ _).2 (List.contains_iff_mem.1 hc)] at this; cases this
  have n2 : ∀ d, x.dst = some d → y.dst ≠ some d := fun d hd e => by
    have := disj_spec h2 d ((setOf_bit _ _).2 (by simp [hd]))
    rw [(setOf_bit _ _).2 (by simp [e])] at this; cases this
  have n3 : ∀ d, y.dst = some d → (x.looksAt ops).contains d = false := fun d hd => by
    have := disj_spec h3 d ((setOf_bit _ _).2 (by simp [hd]))
    cases hc : (x.looksAt ops).contains d with
    | false => rfl
    | true => rw [(setOf_bit _ _).2 (List.contains_iff_mem.1 hc)] at this; cases this
  unfold Oper.apart
  cases hx : x.dst with
  | none =>
    cases hy : y.dst with
    | none => rfl
    | some e => simp only [n3 e hy]; rfl
  | some d =>
    have := n2 d hx
    cases hy : y.dst with
    | none => simp only [n1 d hx]; rfl
    | some e =>
      rw [hy] at this
      simp only [n1 d hx, n3 e hy, Bool.not_false, Bool.true_and, Bool.and_true]
      simpa using fun e' : e = d => this (by rw [e'])
/-- those that one taken ahead must not pass -/
def clash (i : Nat) (r : Row) : Nat → List Row → Nat
  | _, [] => 0
  | j, s :: l => bif j.beq i || bit s.need i || apartM r s then clash i r (Nat.succ j) l else with1 (clash i r (Nat.succ j) l) j
theorem clash_spec {i : Nat} {r : Row} {m : Nat} : ∀ {l : List Row} {j : Nat}, sub (clash i r j l) m = true → ∀ k s, l[k]? = some s → j + k ≠ i → s.need.testBit i = false → m.testBit (j + k) = false → apartM r s = true
  | [], j, _, k, s, h, _, _, _ => by simp at h
  | s' :: l, j, hs, k, s, h, hne, hn, hm => by
    simp only [clash] at hs
    cases hc : (j.beq i || bit s'.need i || apartM r s') with
    | true =>
      rw [hc] at hs
      cases k with
      | zero =>
        simp at h
        subst h
        simp only [Bool.or_eq_true, bit_eq] at hc
        rcases hc with (hc | hc) | hc
        · exact (hne (by simpa using Nat.eq_of_beq_eq_true hc)).elim
        · rw [hc] at hn; cases hn
        · exact hc
      | succ k => exact clash_spec (j := j + 1) hs k s (by simpa using h) (by omega) hn (by rw [show j + 1 + k = j + (k + 1) from by omega]; exact hm)
    | false =>
      rw [hc] at hs
      have hs' := sub_iff.1 hs
      simp only [cond_false, with1_bit, Bool.or_eq_true, decide_eq_true_iff] at hs'
      cases k with
      | zero =>
        have := hs' j (.inr rfl)
        rw [show j + 0 = j from rfl] at hm
        rw [hm] at this; cases this
      | succ k =>
        exact clash_spec (j := j + 1) (sub_iff.2 fun x hx => hs' x (.inl hx)) k s (by simpa using h) (by omega) hn (by rw [show j + 1 + k = j + (k + 1) from by omega]; exact hm)
structure Ent where
  need : Nat
  cl : Nat
  tk : Bool
  fl : Bool
def entsGo (rows : List Row) : Nat → List Row → List Ent
  | _, [] => []
  | j, r :: l => ⟨r.need, (match r.tk with | true => clash j r 0 rows | false => 0), r.tk, r.fl⟩ :: entsGo rows (Nat.succ j) l
/-! ### what is ready -/
def RdM (ops : Array Oper) (m j : Nat) : Prop := ∃ o, ops[j]? = some o ∧ m.testBit j = false ∧ ∀ e ∈ o.after, Region.binds .any e = true → m.testBit e.on = true
def FreeM (ops : Array Oper) (m i : Nat) : Prop := ∀ oi, ops[i]? = some oi → ∀ (j : Nat) (oj : Oper), ops[j]? = some oj → j ≠ i → m.testBit j = false → (∀ e ∈ oj.after, Region.binds .any e = true → e.on ≠ i) → oi.apart ops oj = true
def Rep (ops : Array Oper) (listed : Array Bool) (m : Nat) : Prop := listed.size = ops.size ∧ ∀ j, listed.getD j false = m.testBit j
theorem rep_ready {ops : Array Oper} {listed : Array Bool} {m j : Nat} (h : Rep ops listed m) : j ∈ Region.ready .any ops listed ↔ RdM ops m j := by
  rw [mem_ready]
  constructor
  · rintro ⟨h1, o, ho, hall⟩
    refine ⟨o, ho, ?_, fun e he hb => by rw [← h.2]; exact hall e he hb⟩
    have hlt : j < listed.size := by rw [h.1]; exact (Array.getElem?_eq_some_iff.1 ho).1
    rw [← h.2]
    simpa [Array.getD_eq_getD_getElem?, hlt] using h1
  · rintro ⟨o, ho, h1, hall⟩
    have hlt : j < listed.size := by rw [h.1]; exact (Array.getElem?_eq_some_iff.1 ho).1
    refine ⟨?_, o, ho, fun e he hb => by rw [h.2]; exact hall e he hb⟩
    rw [← h.2] at h1
    simpa [Array.getD_eq_getD_getElem?, hlt] using h1
theorem rep_set {ops : Array Oper} {listed : Array Bool} {m i : Nat} (h : Rep ops listed m) (hi : i < ops.size) : Rep ops (listed.setIfInBounds i true) (with1 m i) := by
  refine ⟨by simp [h.1], fun j => ?_⟩
  rw [with1_bit, ← h.2]
  by_cases e : i = j
  · subst e
    have : i < listed.size := by rw [h.1]; exact hi
    simp [Array.getD_eq_getD_getElem?, this]
  · rw [getD_set_ne false e]; simp [e]
theorem rep_none (ops : Array Oper) : Rep ops (Array.replicate ops.size false) 0 := by
  refine ⟨by simp, fun j => ?_⟩
  simp only [Array.getD_eq_getD_getElem?, Array.getElem?_replicate, Nat.zero_testBit]
  split <;> rfl
theorem rep_false {ops : Array Oper} {listed : Array Bool} {m j : Nat} (h : Rep ops listed m) (hj : j < ops.size) (hl : listed.getD j true = false) : m.testBit j = false := by
  have hlt : j < listed.size := by rw [h.1]; exact hj
  rw [← h.2]
  simpa [Array.getD_eq_getD_getElem?, hlt] using hl
/-- the ready ones: may it be taken ahead? does it make a block only? -/
def readyM (m : Nat) : Nat → List Ent → List (Nat × Bool × Bool)
  | _, [] => []
  | j, e :: l => bif bit m j then readyM m (Nat.succ j) l else bif sub e.need m then (j, e.tk && sub e.cl m, e.fl) :: readyM m (Nat.succ j) l else readyM m (Nat.succ j) l
theorem readyM_mem {m : Nat} : ∀ {l : List Ent} {j : Nat} {x : Nat × Bool × Bool}, x ∈ readyM m j l ↔ ∃ k e, l[k]? = some e ∧ x = (j + k, e.tk && sub e.cl m, e.fl) ∧ m.testBit (j + k) = false ∧ sub e.need m = true
  | [], j, x => by simp [readyM]
  | e' :: l, j, x => by
    have step : x ∈ readyM m (Nat.succ j) l ↔ ∃ k e, l[k]? = some e ∧ x = (j + (k + 1), e.tk && sub e.cl m, e.fl) ∧ m.testBit (j + (k + 1)) = false ∧ sub e.need m = true := by
      rw [readyM_mem]
      constructor <;> rintro ⟨k, e, h1, h2, h3, h4⟩ <;> refine ⟨k, e, h1, ?_, ?_, h4⟩ <;> first | (rw [h2]; congr 1; omega) | (rw [← h3]; congr 1; omega)
    have tail : (∃ k e, (e' :: l)[k]? = some e ∧ x = (j + k, e.tk && sub e.cl m, e.fl) ∧ m.testBit (j + k) = false ∧ sub e.need m = true) ↔ (x = (j, e'.tk && sub e'.cl m, e'.fl) ∧ m.testBit j = false ∧ sub e'.need m = true) ∨ x ∈ readyM m (Nat.succ j) l := by
      rw [step]
      constructor
      · rintro ⟨k, e, h1, h2⟩
        cases k with
        | zero => simp at h1; subst h1; exact .inl h2
        | succ k => exact .inr ⟨k, e, by simpa using h1, h2⟩
      · rintro (h | ⟨k, e, h1, h2⟩)
        · exact ⟨0, e', rfl, h⟩
        · exact ⟨k + 1, e, by simpa using h1, h2⟩
    rw [tail]
    simp only [readyM, bit_eq]
    cases hb : m.testBit j with
    | true => simp
    | false =>
      cases hs : sub e'.need m with
      | true => simp
      | false => simp
def ents (ops : Array Oper) : List Ent := entsGo (ops.toList.map (rowOf ops)) 0 (ops.toList.map (rowOf ops))
theorem entsGo_get (rows : List Row) : ∀ (l : List Row) (j k : Nat), (entsGo rows j l)[k]? = (l[k]?).map fun r => ⟨r.need, (match r.tk with | true => clash (j + k) r 0 rows | false => 0), r.tk, r.fl⟩
  | [], j, k => by simp [entsGo]
  | r :: l, j, 0 => by simp [entsGo]
  | r :: l, j, k + 1 => by
    simp only [entsGo, List.getElem?_cons_succ]
    rw [entsGo_get rows l (Nat.succ j) k, show Nat.succ j + k = j + (k + 1) from by omega]
theorem ents_get (ops : Array Oper) (k : Nat) : (ents ops)[k]? = (ops[k]?).map fun o => ⟨needL o.after.toList, (match isTake o with | true => clash k (rowOf ops o) 0 (ops.toList.map (rowOf ops)) | false => 0), isTake o, isFlt o && noGuard o⟩ := by
  unfold ents
  rw [entsGo_get, List.getElem?_map, Array.getElem?_toList]
  cases ops[k]? with
  | none => rfl
  | some o => simp [rowOf]
theorem ready_spec {ops : Array Oper} {m : Nat} {j : Nat} : RdM ops m j ↔ ∃ t f, (j, t, f) ∈ readyM m 0 (ents ops) := by
  constructor
  · rintro ⟨o, ho, h1, h2⟩
    refine ⟨_, _, readyM_mem.2 ⟨j, _, by rw [ents_get, ho]; rfl, by rw [Nat.zero_add], by rw [Nat.zero_add]; exact h1, ?_⟩⟩
    refine sub_iff.2 fun k hk => ?_
    obtain ⟨e, he, hb, rfl⟩ := (needL_bit _ _).1 hk
    exact h2 e (Array.mem_toList_iff.1 he) hb
  · rintro ⟨t, f, h⟩
    obtain ⟨k, e, h1, h2, h3, h4⟩ := readyM_mem.1 h
    simp only [Nat.zero_add, Prod.mk.injEq] at h2 h3
    obtain ⟨rfl, rfl, rfl⟩ := h2
    rw [ents_get] at h1
    obtain ⟨o, ho, rfl⟩ := Option.map_eq_some_iff.1 h1
    exact ⟨o, ho, h3, fun e he hb => sub_iff.1 h4 e.on ((needL_bit _ _).2 ⟨e, Array.mem_toList_iff.2 he, hb, rfl⟩)⟩
theorem ready_take {ops : Array Oper} {m j : Nat} {f : Bool} (h : (j, true, f) ∈ readyM m 0 (ents ops)) : FreeM ops m j := by
  obtain ⟨k, e, h1, h2, h3, h4⟩ := readyM_mem.1 h
  simp only [Nat.zero_add, Prod.mk.injEq] at h2 h3
  obtain ⟨rfl, ht, rfl⟩ := h2
  rw [ents_get] at h1
  obtain ⟨o, ho, rfl⟩ := Option.map_eq_some_iff.1 h1
  simp only [Bool.true_eq, Bool.and_eq_true] at ht
  intro oi hoi i oj hoj hne hm hno
  rw [ho] at hoi
  cases hoi
  rw [ht.1] at ht
  refine apartM_ok (clash_spec ht.2 i (rowOf ops oj) (by rw [List.getElem?_map, Array.getElem?_toList, hoj]; rfl) (by simpa using hne) ?_ (by simpa using hm))
  cases hb : (rowOf ops oj).need.testBit j with
  | false => rfl
  | true =>
    obtain ⟨e, he, hb', heq⟩ := (needL_bit _ _).1 hb
    exact (hno e (Array.mem_toList_iff.1 he) hb' heq).elim
theorem ready_flt {ops : Array Oper} {m j : Nat} {t : Bool} (h : (j, t, true) ∈ readyM m 0 (ents ops)) : ∃ o, ops[j]? = some o ∧ isFlt o = true ∧ o.guard = none := by
  obtain ⟨k, e, h1, h2, h3, h4⟩ := readyM_mem.1 h
  simp only [Nat.zero_add, Prod.mk.injEq] at h2 h3
  obtain ⟨rfl, ht, hf⟩ := h2
  rw [ents_get] at h1
  obtain ⟨o, ho, rfl⟩ := Option.map_eq_some_iff.1 h1
  simp only [Bool.true_eq, Bool.and_eq_true] at hf
  refine ⟨o, ho, hf.1, ?_⟩
  have := hf.2
  unfold noGuard at this
  split at this
  · assumption
  · cases this
end
end Cx
end Go.Proofs.YtcpkihikmpkdnaaGreatDoor
