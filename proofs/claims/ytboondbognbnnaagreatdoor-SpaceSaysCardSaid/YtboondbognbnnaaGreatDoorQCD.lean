/- A verified executor of closed calls, part 11: which operation may come when, in numbers. A verified executor of closed calls, part 12: plans; operations that only make a block, beside a line of others. A verified executor of closed calls, part 13: what a lane does. -/
import Derived.Test.YtboondbognbnnaaGreatDoorQCC
set_option linter.unusedVariables false
set_option linter.unusedSimpArgs false
set_option linter.unusedVariables false
set_option linter.unusedSimpArgs false
namespace Go.Proofs.YtboondbognbnnaaGreatDoor
namespace Cx
noncomputable section
def isTake (o : Oper) : Bool :=
  match o.op with
  | .move _ | .assign _ | .pick .. | .build .. | .nilCheck _ | .binOp .. | .unOp .. | .convert .. | .makeInterface .. | .makeFunc .. | .slice .. | .fieldAddr .. | .field .. | .indexAddr .. | .index .. | .extract .. | .typeAssert .. | .load .. => true
  | .call c => match c.callee with
    | .builtin .len | .builtin .cap | .builtin .min | .builtin .max => true
    | _ => false
  | _ => false
/-- makes a block, asks nothing of those that lie -/
def isFlt (o : Oper) : Bool :=
  match o.op with
  | .alloc _ | .box .. | .makeMap .. => true
  | .buildSlice .. => true
  | _ => false
/-! ### sets of small numbers -/
def bit (m j : Nat) : Bool := (Nat.land (Nat.shiftRight m j) 1).beq 1
theorem bit_eq (m j : Nat) : bit m j = m.testBit j := by
  unfold bit
  rw [Tr.beq_dec]
  show decide ((m >>> j) &&& 1 = 1) = m.testBit j
  rw [Nat.testBit, Nat.and_one_is_mod, Nat.one_and_eq_mod_two]
  rcases Nat.mod_two_eq_zero_or_one (m >>> j) with h | h <;> rw [h] <;> rfl
def sub (a m : Nat) : Bool := (Nat.land a m).beq a
theorem sub_iff {a m : Nat} : sub a m = true ↔ ∀ j, a.testBit j = true → m.testBit j = true := by
  unfold sub
  rw [Tr.beq_dec, decide_eq_true_iff]
  show (a &&& m = a) ↔ _
  constructor
  · intro h j hj
    rw [← h, Nat.testBit_and, Bool.and_eq_true] at hj
    exact hj.2
  · intro h
    apply Nat.eq_of_testBit_eq
    intro j
    rw [Nat.testBit_and]
    cases hj : a.testBit j with
    | false => rfl
    | true => rw [h j hj]; rfl
def with1 (m i : Nat) : Nat := Nat.lor m (Nat.pow 2 i)
theorem with1_bit (m i j : Nat) : (with1 m i).testBit j = (m.testBit j || decide (i = j)) := by
  show (m ||| 2 ^ i).testBit j = _
  rw [Nat.testBit_or, Nat.testBit_two_pow]
def needL : List Edge → Nat
  | [] => 0
  | e :: l => bif Region.binds .any e then with1 (needL l) e.on else needL l
theorem needL_bit : ∀ (l : List Edge) (k : Nat), (needL l).testBit k = true ↔ ∃ e ∈ l, Region.binds .any e = true ∧ e.on = k
  | [], k => by simp [needL]
  | e :: l, k => by
    have ih := needL_bit l k
    cases hb : Region.binds .any e with
    | false =>
      simp only [needL, hb, cond_false, ih]
      constructor
      · rintro ⟨x, hx, h⟩; exact ⟨x, by simp [hx], h⟩
      · rintro ⟨x, hx, h⟩
        rcases List.mem_cons.1 hx with rfl | hx
        · rw [hb] at h; cases h.1
        · exact ⟨x, hx, h⟩
    | true =>
      simp only [needL, hb, cond_true, with1_bit, Bool.or_eq_true, ih, decide_eq_true_iff]
      constructor
      · rintro (⟨x, hx, h⟩ | h)
        · exact ⟨x, by simp [hx], h⟩
        · exact ⟨e, by simp, hb, h⟩
      · rintro ⟨x, hx, h⟩
        rcases List.mem_cons.1 hx with rfl | hx
        · exact .inr h.2
        · exact .inl ⟨x, hx, h⟩
def setOf : List Nat → Nat
  | [] => 0
  | t :: l => with1 (setOf l) t
theorem setOf_bit : ∀ (l : List Nat) (k : Nat), (setOf l).testBit k = true ↔ k ∈ l
  | [], k => by simp [setOf]
  | t :: l, k => by simp only [setOf, with1_bit, Bool.or_eq_true, setOf_bit l k, decide_eq_true_iff, List.mem_cons]; constructor <;> (rintro (h | h)) <;> first | exact .inl h.symm | exact .inr h.symm | exact .inl h | exact .inr h
structure Row where
  need : Nat
  rd : Nat
  wr : Nat
  tk : Bool
  fl : Bool
def noGuard (o : Oper) : Bool := match o.guard with | none => true | some _ => false
def rowOf (ops : Array Oper) (o : Oper) : Row := ⟨needL o.after.toList, setOf (o.looksAt ops), setOf o.dst.toList, isTake o, isFlt o && noGuard o⟩
def disj (a b : Nat) : Bool := (Nat.land a b).beq 0
theorem disj_spec {a b : Nat} (h : disj a b = true) (j : Nat) (ha : a.testBit j = true) : b.testBit j = false := by
  unfold disj at h
  have h := Nat.eq_of_beq_eq_true h
  cases hb : b.testBit j with
  | false => rfl
  | true =>
    have : (a &&& b).testBit j = true := by rw [Nat.testBit_and, ha, hb]; rfl
    rw [show a &&& b = 0 from h] at this
    simp at this
def apartM (r s : Row) : Bool := disj r.wr s.rd && disj r.wr s.wr && disj s.wr r.rd
theorem apartM_ok {ops : Array Oper} {x y : Oper} (h : apartM (rowOf ops x) (rowOf ops y) = true) : x.apart ops y = true := by
  simp only [apartM, rowOf, Bool.and_eq_true] at h
  obtain ⟨⟨h1, h2⟩, h3⟩ := h
  have n1 : ∀ d, x.dst = some d → (y.looksAt ops).contains d = false := fun d hd => by
    have := disj_spec h1 d ((setOf_bit _ _).2 (by simp [hd]))
    cases hc : (y.looksAt ops).contains d with
    | false => rfl
    | true => rw [(setOf_bit _ _).2 (List.contains_iff_mem.1 hc)] at this; cases this
  have n2 : ∀ d, x.dst = some d → y.dst ≠ some d := fun d hd e => by
    have := disj_spec h2 d ((setOf_bit _ _).2 (by simp [hd]))
    rw [(setOf_bit _ _).2 (by simp [e])] at this; cases this
  have n3 : ∀ d, y.dst = some d → (x.looksAt ops).contains d = false := fun d hd => by
    have := disj_spec h3 d ((setOf_bit _ _).2 (by simp [hd]))
    cases hc : (x.looksAt ops).contains d with
    | false => rfl
    | true => rw [(setOf_bit _ _).2 (List.contains_iff_mem.1 hc)] at this; cases this
  unfold Oper.apart
  cases hx : x.dst with
  | none =>
    cases hy : y.dst with
    | none => rfl
    | some e => simp only [n3 e hy]; rfl
  | some d =>
    have := n2 d hx
    cases hy : y.dst with
    | none => simp only [n1 d hx]; rfl
    | some e =>
      rw [hy] at this
      simp only [n1 d hx, n3 e hy, Bool.not_false, Bool.true_and, Bool.and_true]
      simpa using fun e' : e = d => this (by rw [e'])
/-- those that one taken ahead must not pass -/
def clash (i : Nat) (r : Row) : Nat → List Row → Nat
  | _, [] => 0
  | j, s :: l => bif j.beq i || bit s.need i || apartM r s then clash i r (Nat.succ j) l else with1 (clash i r (Nat.succ j) l) j
theorem clash_spec {i : Nat} {r : Row} {m : Nat} : ∀ {l : List Row} {j : Nat}, sub (clash i r j l) m = true → ∀ k s, l[k]? = some s → j + k ≠ i → s.need.testBit i = false → m.testBit (j + k) = false → apartM r s = true
  | [], j, _, k, s, h, _, _, _ => by simp at h
  | s' :: l, j, hs, k, s, h, hne, hn, hm => by
    simp only [clash] at hs
    cases hc : (j.beq i || bit s'.need i || apartM r s') with
    | true =>
      rw [hc] at hs
      cases k with
      | zero =>
        simp at h
        subst h
        simp only [Bool.or_eq_true, bit_eq] at hc
        rcases hc with (hc | hc) | hc
        · exact (hne (by simpa using Nat.eq_of_beq_eq_true hc)).elim
        · rw [hc] at hn; cases hn
        · exact hc
      | succ k => exact clash_spec (j := j + 1) hs k s (by simpa using h) (by omega) hn (by rw [show j + 1 + k = j + (k + 1) from by omega]; exact hm)
    | false =>
      rw [hc] at hs
      have hs' := sub_iff.1 hs
      simp only [cond_false, with1_bit, Bool.or_eq_true, decide_eq_true_iff] at hs'
      cases k with
      | zero =>
        have := hs' j (.inr rfl)
        rw [show j + 0 = j from rfl] at hm
        rw [hm] at this; cases this
      | succ k =>
        exact clash_spec (j := j + 1) (sub_iff.2 fun x hx => hs' x (.inl hx)) k s (by simpa using h) (by omega) hn (by rw [show j + 1 + k = j + (k + 1) from by omega]; exact hm)
structure Ent where
  need : Nat
  cl : Nat
  tk : Bool
  fl : Bool
def entsGo (rows : List Row) : Nat → List Row → List Ent
  | _, [] => []
  | j, r :: l => ⟨r.need, (match r.tk with | true => clash j r 0 rows | false => 0), r.tk, r.fl⟩ :: entsGo rows (Nat.succ j) l
/-! ### what is ready -/
def RdM (ops : Array Oper) (m j : Nat) : Prop := ∃ o, ops[j]? = some o ∧ m.testBit j = false ∧ ∀ e ∈ o.after, Region.binds .any e = true → m.testBit e.on = true
def FreeM (ops : Array Oper) (m i : Nat) : Prop := ∀ oi, ops[i]? = some oi → ∀ (j : Nat) (oj : Oper), ops[j]? = some oj → j ≠ i → m.testBit j = false → (∀ e ∈ oj.after, Region.binds .any e = true → e.on ≠ i) → oi.apart ops oj = true
def Rep (ops : Array Oper) (listed : Array Bool) (m : Nat) : Prop := listed.size = ops.size ∧ ∀ j, listed.getD j false = m.testBit j
theorem rep_ready {ops : Array Oper} {listed : Array Bool} {m j : Nat} (h : Rep ops listed m) : j ∈ Region.ready .any ops listed ↔ RdM ops m j := by
  rw [mem_ready]
  constructor
  · rintro ⟨h1, o, ho, hall⟩
    refine ⟨o, ho, ?_, fun e he hb => by rw [← h.2]; exact hall e he hb⟩
    have hlt : j < listed.size := by rw [h.1]; exact (Array.getElem?_eq_some_iff.1 ho).1
    rw [← h.2]
    simpa [Array.getD_eq_getD_getElem?, hlt] using h1
  · rintro ⟨o, ho, h1, hall⟩
    have hlt : j < listed.size := by rw [h.1]; exact (Array.getElem?_eq_some_iff.1 ho).1
    refine ⟨?_, o, ho, fun e he hb => by rw [h.2]; exact hall e he hb⟩
    rw [← h.2] at h1
    simpa [Array.getD_eq_getD_getElem?, hlt] using h1
theorem rep_set {ops : Array Oper} {listed : Array Bool} {m i : Nat} (h : Rep ops listed m) (hi : i < ops.size) : Rep ops (listed.setIfInBounds i true) (with1 m i) := by
  refine ⟨by simp [h.1], fun j => ?_⟩
  rw [with1_bit, ← h.2]
  by_cases e : i = j
  · subst e
    have : i < listed.size := by rw [h.1]; exact hi
    simp [Array.getD_eq_getD_getElem?, this]
  · rw [getD_set_ne false e]; simp [e]
theorem rep_none (ops : Array Oper) : Rep ops (Array.replicate ops.size false) 0 := by
  refine ⟨by simp, fun j => ?_⟩
  simp only [Array.getD_eq_getD_getElem?, Array.getElem?_replicate, Nat.zero_testBit]
  split <;> rfl
theorem rep_false {ops : Array Oper} {listed : Array Bool} {m j : Nat} (h : Rep ops listed m) (hj : j < ops.size) (hl : listed.getD j true = false) : m.testBit j = false := by
  have hlt : j < listed.size := by rw [h.1]; exact hj
  rw [← h.2]
  simpa [Array.getD_eq_getD_getElem?, hlt] using hl
/-- the ready ones: may it be taken ahead? does it make a block only? -/
def readyM (m : Nat) : Nat → List Ent → List (Nat × Bool × Bool)
  | _, [] => []
  | j, e :: l => bif bit m j then readyM m (Nat.succ j) l else bif sub e.need m then (j, e.tk && sub e.cl m, e.fl) :: readyM m (Nat.succ j) l else readyM m (Nat.succ j) l
theorem readyM_mem {m : Nat} : ∀ {l : List Ent} {j : Nat} {x : Nat × Bool × Bool}, x ∈ readyM m j l ↔ ∃ k e, l[k]? = some e ∧ x = (j + k, e.tk && sub e.cl m, e.fl) ∧ m.testBit (j + k) = false ∧ sub e.need m = true
  | [], j, x => by simp [readyM]
  | e' :: l, j, x => by
    have step : x ∈ readyM m (Nat.succ j) l ↔ ∃ k e, l[k]? = some e ∧ x = (j + (k + 1), e.tk && sub e.cl m, e.fl) ∧ m.testBit (j + (k + 1)) = false ∧ sub e.need m = true := by
      rw [readyM_mem]
      constructor <;> rintro ⟨k, e, h1, h2, h3, h4⟩ <;> refine ⟨k, e, h1, ?_, ?_, h4⟩ <;> first | (rw [h2]; congr 1; omega) | (rw [← h3]; congr 1; omega)
    have tail : (∃ k e, (e' :: l)[k]? = some e ∧ x = (j + k, e.tk && sub e.cl m, e.fl) ∧ m.testBit (j + k) = false ∧ sub e.need m = true) ↔ (x = (j, e'.tk && sub e'.cl m, e'.fl) ∧ m.testBit j = false ∧ sub e'.need m = true) ∨ x ∈ readyM m (Nat.succ j) l := by
      rw [step]
      constructor
      · rintro ⟨k, e, h1, h2⟩
        cases k with
        | zero => simp at h1; subst h1; exact .inl h2
        | succ k => exact .inr ⟨k, e, by simpa using h1, h2⟩
      · rintro (h | ⟨k, e, h1, h2⟩)
        · exact ⟨0, e', rfl, h⟩
        · exact ⟨k + 1, e, by simpa using h1, h2⟩
    rw [tail]
    simp only [readyM, bit_eq]
    cases hb : m.testBit j with
    | true => simp
    | false =>
      cases hs : sub e'.need m with
      | true => simp
      | false => simp
def ents (ops : Array Oper) : List Ent := entsGo (ops.toList.map (rowOf ops)) 0 (ops.toList.map (rowOf ops))
theorem entsGo_get (rows : List Row) : ∀ (l : List Row) (j k : Nat), (entsGo rows j l)[k]? = (l[k]?).map fun r => ⟨r.need, (match r.tk with | true => clash (j + k) r 0 rows | false => 0), r.tk, r.fl⟩
  | [], j, k => by simp [entsGo]
  | r :: l, j, 0 => by simp [entsGo]
  | r :: l, j, k + 1 => by
    simp only [entsGo, List.getElem?_cons_succ]
    rw [entsGo_get rows l (Nat.succ j) k, show Nat.succ j + k = j + (k + 1) from by omega]
theorem ents_get (ops : Array Oper) (k : Nat) : (ents ops)[k]? = (ops[k]?).map fun o => ⟨needL o.after.toList, (match isTake o with | true => clash k (rowOf ops o) 0 (ops.toList.map (rowOf ops)) | false => 0), isTake o, isFlt o && noGuard o⟩ := by
  unfold ents
  rw [entsGo_get, List.getElem?_map, Array.getElem?_toList]
  cases ops[k]? with
  | none => rfl
  | some o => simp [rowOf]
theorem ready_spec {ops : Array Oper} {m : Nat} {j : Nat} : RdM ops m j ↔ ∃ t f, (j, t, f) ∈ readyM m 0 (ents ops) := by
  constructor
  · rintro ⟨o, ho, h1, h2⟩
    refine ⟨_, _, readyM_mem.2 ⟨j, _, by rw [ents_get, ho]; rfl, by rw [Nat.zero_add], by rw [Nat.zero_add]; exact h1, ?_⟩⟩
    refine sub_iff.2 fun k hk => ?_
    obtain ⟨e, he, hb, rfl⟩ := (needL_bit _ _).1 hk
    exact h2 e (Array.mem_toList_iff.1 he) hb
  · rintro ⟨t, f, h⟩
    obtain ⟨k, e, h1, h2, h3, h4⟩ := readyM_mem.1 h
    simp only [Nat.zero_add, Prod.mk.injEq] at h2 h3
    obtain ⟨rfl, rfl, rfl⟩ := h2
    rw [ents_get] at h1
    obtain ⟨o, ho, rfl⟩ := Option.map_eq_some_iff.1 h1
    exact ⟨o, ho, h3, fun e he hb => sub_iff.1 h4 e.on ((needL_bit _ _).2 ⟨e, Array.mem_toList_iff.2 he, hb, rfl⟩)⟩
theorem ready_take {ops : Array Oper} {m j : Nat} {f : Bool} (h : (j, true, f) ∈ readyM m 0 (ents ops)) : FreeM ops m j := by
  obtain ⟨k, e, h1, h2, h3, h4⟩ := readyM_mem.1 h
  simp only [Nat.zero_add, Prod.mk.injEq] at h2 h3
  obtain ⟨rfl, ht, rfl⟩ := h2
  rw [ents_get] at h1
  obtain ⟨o, ho, rfl⟩ := Option.map_eq_some_iff.1 h1
  simp only [Bool.true_eq, Bool.and_eq_true] at ht
  intro oi hoi i oj hoj hne hm hno
  rw [ho] at hoi
  cases hoi
  rw [ht.1] at ht
  refine apartM_ok (clash_spec ht.2 i (rowOf ops oj) (by rw [List.getElem?_map, Array.getElem?_toList, hoj]; rfl) (by simpa using hne) ?_ (by simpa using hm))
  cases hb : (rowOf ops oj).need.testBit j with
  | false => rfl
  | true =>
    obtain ⟨e, he, hb', heq⟩ := (needL_bit _ _).1 hb
    exact (hno e (Array.mem_toList_iff.1 he) hb' heq).elim
theorem ready_flt {ops : Array Oper} {m j : Nat} {t : Bool} (h : (j, t, true) ∈ readyM m 0 (ents ops)) : ∃ o, ops[j]? = some o ∧ isFlt o = true ∧ o.guard = none := by
  obtain ⟨k, e, h1, h2, h3, h4⟩ := readyM_mem.1 h
  simp only [Nat.zero_add, Prod.mk.injEq] at h2 h3
  obtain ⟨rfl, ht, hf⟩ := h2
  rw [ents_get] at h1
  obtain ⟨o, ho, rfl⟩ := Option.map_eq_some_iff.1 h1
  simp only [Bool.true_eq, Bool.and_eq_true] at hf
  refine ⟨o, ho, hf.1, ?_⟩
  have := hf.2
  unfold noGuard at this
  split at this
  · assumption
  · cases this
end
end Cx
end Go.Proofs.YtboondbognbnnaaGreatDoor

set_option linter.unusedVariables false
set_option linter.unusedSimpArgs false
namespace Go.Proofs.YtboondbognbnnaaGreatDoor
namespace Cx
noncomputable section
/-! ### plans -/
abbrev Lane := List (Nat × Bool) × List Nat
def findTk : List (Nat × Bool × Bool) → Nat → Option Nat
  | [], _ => none
  | (j, t, _) :: l, s => bif t && !bit s j then some j else findTk l s
def others : List (Nat × Bool × Bool) → Nat → List Nat
  | [], _ => []
  | (j, _, _) :: l, s => bif bit s j then others l s else j :: others l s
/-- along one line, all but 'skip' -/
def opsGo (es : List Ent) (skip : Nat) : Nat → Nat → List (Nat × Bool) × Nat
  | 0, m => ([], m)
  | f + 1, m => match findTk (readyM m 0 es) skip with
    | some i => match opsGo es skip f (with1 m i) with
      | (A, m') => ((i, true) :: A, m')
    | none => match others (readyM m 0 es) skip with
      | [i] => match opsGo es skip f (with1 m i) with
        | (A, m') => ((i, false) :: A, m')
      | _ => ([], m)
def closeD (seeds m : Nat) : Nat → List Ent → Nat → List Nat
  | _, [], _ => []
  | j, e :: l, D => bif bit m j then closeD seeds m (Nat.succ j) l D else
      bif ((e.fl && bit seeds j) || (e.tk && !e.fl && !disj e.need D)) && sub e.need (Nat.lor m D) then j :: closeD seeds m (Nat.succ j) l (with1 D j) else closeD seeds m (Nat.succ j) l D
def inL (j : Nat) : List Nat → Bool
  | [] => false
  | k :: l => j.beq k || inL j l
theorem inL_iff {j : Nat} : ∀ {l : List Nat}, inL j l = true ↔ j ∈ l
  | [] => by simp [inL]
  | k :: l => by simp only [inL, Bool.or_eq_true, inL_iff, List.mem_cons, Tr.beq_dec, decide_eq_true_iff]
def rdy (j : Nat) : List (Nat × Bool × Bool) → Bool
  | [] => false
  | x :: l => j.beq x.1 || rdy j l
def rdyTk (j : Nat) : List (Nat × Bool × Bool) → Bool
  | [] => false
  | x :: l => (j.beq x.1 && x.2.1) || rdyTk j l
/-- every way to mix them -/
def laneChk (es : List Ent) (D : List Nat) (mf : Nat) : Nat → Nat → List (Nat × Bool) → Bool
  | 0, _, _ => false
  | f + 1, m, A => match (readyM m 0 es).find? (fun x => x.2.1 && !x.2.2 && inL x.1 D) with
    | some x => laneChk es D mf f (with1 m x.1) A
    | none => match A with
      | (i, true) :: A' => rdyTk i (readyM m 0 es) && laneChk es D mf f (with1 m i) A'
      | (i, false) :: A' => rdy i (readyM m 0 es) && laneChk es D mf f (with1 m i) A' && (readyM m 0 es).all fun x => x.1.beq i || (inL x.1 D && x.2.2 && laneChk es D mf f (with1 m x.1) ((i, false) :: A'))
      | [] => bif m.beq mf then true else !(readyM m 0 es).isEmpty && (readyM m 0 es).all fun x => inL x.1 D && x.2.2 && laneChk es D mf f (with1 m x.1) []
inductive LaneOk (ops : Array Oper) (D : List Nat) (mf : Nat) : Nat → List (Nat × Bool) → Prop where
  | done : LaneOk ops D mf mf []
  | dtake {m d : Nat} {A : List (Nat × Bool)} : d ∈ D → (∃ o, ops[d]? = some o ∧ (isFlt o && noGuard o) = false) → RdM ops m d → FreeM ops m d → LaneOk ops D mf (with1 m d) A → LaneOk ops D mf m A
  | take {m i : Nat} {A : List (Nat × Bool)} : RdM ops m i → FreeM ops m i → LaneOk ops D mf (with1 m i) A → LaneOk ops D mf m ((i, true) :: A)
  | eff {m i : Nat} {A : List (Nat × Bool)} : RdM ops m i → LaneOk ops D mf (with1 m i) A → (∀ j, RdM ops m j → j ≠ i → j ∈ D ∧ ∃ o, ops[j]? = some o ∧ isFlt o = true) → (∀ j, RdM ops m j → j ≠ i → LaneOk ops D mf (with1 m j) ((i, false) :: A)) → LaneOk ops D mf m ((i, false) :: A)
  | flts {m : Nat} : (∃ j, RdM ops m j) → (∀ j, RdM ops m j → j ∈ D ∧ ∃ o, ops[j]? = some o ∧ isFlt o = true) → (∀ j, RdM ops m j → LaneOk ops D mf (with1 m j) []) → LaneOk ops D mf m []
theorem rdy_ok {j : Nat} : ∀ {l : List (Nat × Bool × Bool)}, rdy j l = true → ∃ t f, (j, t, f) ∈ l
  | [], h => by simp [rdy] at h
  | (k, t, f) :: l, h => by
    simp only [rdy, Bool.or_eq_true] at h
    rcases h with h | h
    · rw [Nat.eq_of_beq_eq_true h]; exact ⟨t, f, by simp⟩
    · obtain ⟨t, f, h⟩ := rdy_ok h; exact ⟨t, f, by simp [h]⟩
theorem rdyTk_ok {j : Nat} : ∀ {l : List (Nat × Bool × Bool)}, rdyTk j l = true → ∃ f, (j, true, f) ∈ l
  | [], h => by simp [rdyTk] at h
  | (k, t, f) :: l, h => by
    simp only [rdyTk, Bool.or_eq_true, Bool.and_eq_true] at h
    rcases h with ⟨h, ht⟩ | h
    · rw [Nat.eq_of_beq_eq_true h]
      have ht : t = true := ht
      subst ht
      exact ⟨f, by simp⟩
    · obtain ⟨f, h⟩ := rdyTk_ok h; exact ⟨f, by simp [h]⟩
theorem ready_notFlt {ops : Array Oper} {m j : Nat} {t : Bool} (h : (j, t, false) ∈ readyM m 0 (ents ops)) : ∃ o, ops[j]? = some o ∧ (isFlt o && noGuard o) = false := by
  obtain ⟨k, e, h1, h2, h3, h4⟩ := readyM_mem.1 h
  simp only [Nat.zero_add, Prod.mk.injEq] at h2 h3
  obtain ⟨rfl, ht, hf⟩ := h2
  rw [ents_get] at h1
  obtain ⟨o, ho, rfl⟩ := Option.map_eq_some_iff.1 h1
  exact ⟨o, ho, hf.symm⟩
theorem laneChk_ok {ops : Array Oper} {D : List Nat} {mf : Nat} : ∀ {f m : Nat} {A : List (Nat × Bool)}, laneChk (ents ops) D mf f m A = true → LaneOk ops D mf m A
  | 0, m, A, h => by simp [laneChk] at h
  | f + 1, m, A, h => by
    unfold laneChk at h
    split at h
    · rename_i x hx
      have hm := List.mem_of_find?_eq_some hx
      have hp := List.find?_some hx
      simp only [Bool.and_eq_true] at hp
      obtain ⟨j, t, fl⟩ := x
      have ht : t = true := hp.1.1
      subst ht
      have hf : fl = false := by simpa using hp.1.2
      subst hf
      exact .dtake (inL_iff.1 hp.2) (ready_notFlt hm) (ready_spec.2 ⟨_, _, hm⟩) (ready_take hm) (laneChk_ok h)
    · split at h
      · rename_i i A'
        simp only [Bool.and_eq_true] at h
        obtain ⟨fl, hm⟩ := rdyTk_ok h.1
        exact .take (ready_spec.2 ⟨_, _, hm⟩) (ready_take hm) (laneChk_ok h.2)
      · rename_i i A'
        simp only [Bool.and_eq_true, List.all_eq_true] at h
        obtain ⟨⟨h1, h2⟩, h3⟩ := h
        obtain ⟨t, fl, hm⟩ := rdy_ok h1
        have key : ∀ j, RdM ops m j → j ≠ i → (j ∈ D ∧ ∃ o, ops[j]? = some o ∧ isFlt o = true) ∧ LaneOk ops D mf (with1 m j) ((i, false) :: A') := fun j hj hne => by
          obtain ⟨t, fl, hmj⟩ := ready_spec.1 hj
          have := h3 _ hmj
          simp only [Bool.or_eq_true, Bool.and_eq_true] at this
          rcases this with h | ⟨⟨g1, g2⟩, g3⟩
          · exact (hne (Nat.eq_of_beq_eq_true h)).elim
          · have g2 : fl = true := g2
            subst g2
            obtain ⟨o, ho, hf, _⟩ := ready_flt hmj
            exact ⟨⟨inL_iff.1 g1, o, ho, hf⟩, laneChk_ok g3⟩
        exact .eff (ready_spec.2 ⟨_, _, hm⟩) (laneChk_ok h2) (fun j hj hne => (key j hj hne).1) (fun j hj hne => (key j hj hne).2)
      · cases hb : m.beq mf with
        | true => rw [Nat.eq_of_beq_eq_true hb]; exact .done
        | false =>
          rw [hb] at h
          simp only [cond_false, Bool.and_eq_true, List.all_eq_true] at h
          obtain ⟨h1, h2⟩ := h
          have key : ∀ j, RdM ops m j → (j ∈ D ∧ ∃ o, ops[j]? = some o ∧ isFlt o = true) ∧ LaneOk ops D mf (with1 m j) [] := fun j hj => by
            obtain ⟨t, fl, hmj⟩ := ready_spec.1 hj
            obtain ⟨⟨g1, g2⟩, g3⟩ := h2 _ hmj
            have g2 : fl = true := g2
            subst g2
            obtain ⟨o, ho, hf, _⟩ := ready_flt hmj
            exact ⟨⟨inL_iff.1 g1, o, ho, hf⟩, laneChk_ok g3⟩
          refine .flts ?_ (fun j hj => (key j hj).1) (fun j hj => (key j hj).2)
          cases hl : readyM m 0 (ents ops) with
          | nil => rw [hl] at h1; simp at h1
          | cons x l => exact ⟨x.1, ready_spec.2 ⟨x.2.1, x.2.2, by rw [hl]; simp⟩⟩
/-- no operation of the line touches what these touch -/
def laneApart (ops : Array Oper) (A : List (Nat × Bool)) (D : List Nat) : Bool :=
  A.all fun x => D.all fun d => match ops[x.1]?, ops[d]? with
    | some oi, some od => apartM (rowOf ops oi) (rowOf ops od)
    | _, _ => false
theorem laneApart_ok {ops : Array Oper} {A : List (Nat × Bool)} {D : List Nat} (h : laneApart ops A D = true) {x : Nat × Bool} (hx : x ∈ A) {d : Nat} (hd : d ∈ D) {oi od : Oper} (hi : ops[x.1]? = some oi) (ho : ops[d]? = some od) : oi.apart ops od = true := by
  simp only [laneApart, List.all_eq_true] at h
  have := h x hx d hd
  rw [hi, ho] at this
  exact apartM_ok this
def seedsOf : List (Nat × Bool × Bool) → List Nat
  | [] => []
  | (j, _, f) :: l => bif f then j :: seedsOf l else seedsOf l
def tryLane (ops : Array Oper) (es : List Ent) (f m : Nat) (seeds : Nat) : Option (Lane × Nat) :=
  match closeD seeds m 0 es 0 with
  | D => match opsGo es (setOf D) f m with
    | (A, mA) => match Nat.lor mA (setOf D) with
      | mf => bif laneChk es D mf (Nat.succ f) m A && laneApart ops A D && disj m (setOf D) && sub (setOf D) mf then some ((A, D), mf) else none
def tryLanes (ops : Array Oper) (es : List Ent) (f m : Nat) : List Nat → Option (Lane × Nat)
  | [] => none
  | s :: l => match tryLane ops es f m s with
    | some r => some r
    | none => tryLanes ops es f m l
def planGo (ops : Array Oper) (es : List Ent) : Nat → Nat → Option (List Lane)
  | 0, m => match readyM m 0 es with
    | [] => some []
    | _ => none
  | f + 1, m => match readyM m 0 es with
    | [] => some []
    | l => match opsGo es 0 ops.size m with
      | (A, mA) => bif mA.beq m then (match tryLanes ops es ops.size m (setOf (seedsOf l) :: (seedsOf l).map (with1 0)) with
          | some (L, mf) => (planGo ops es f mf).map (L :: ·)
          | none => none) else (bif laneChk es [] mA (Nat.succ ops.size) m A then (planGo ops es f mA).map ((A, []) :: ·) else none)
def planOf (ops : Array Oper) : Option (List Lane) := bif Region.noSelect ops && noDefer ops then planGo ops (ents ops) ops.size 0 else none
inductive PlanOk (ops : Array Oper) : Nat → List Lane → Prop where
  | nil {m : Nat} : (∀ j, ¬ RdM ops m j) → PlanOk ops m []
  | cons {m mf : Nat} {A : List (Nat × Bool)} {D : List Nat} {p : List Lane} : LaneOk ops D mf m A → laneApart ops A D = true → (∀ d ∈ D, m.testBit d = false ∧ mf.testBit d = true) → PlanOk ops mf p → PlanOk ops m ((A, D) :: p)
theorem laneApart_nil (ops : Array Oper) (A : List (Nat × Bool)) : laneApart ops A [] = true := by simp [laneApart]
theorem tryLanes_ok {ops : Array Oper} {f m : Nat} : ∀ {l : List Nat} {L : Lane} {mf : Nat}, tryLanes ops (ents ops) f m l = some (L, mf) → LaneOk ops L.2 mf m L.1 ∧ laneApart ops L.1 L.2 = true ∧ ∀ d ∈ L.2, m.testBit d = false ∧ mf.testBit d = true
  | [], L, mf, h => by simp [tryLanes] at h
  | s :: l, L, mf, h => by
    simp only [tryLanes] at h
    split at h
    · rename_i r hr
      cases h
      unfold tryLane at hr
      simp only at hr
      generalize hc : (laneChk _ _ _ _ _ _ && laneApart _ _ _ && disj _ _ && sub _ _) = c at hr
      cases c with
      | false => cases hr
      | true =>
        simp only [cond_true, Option.some.injEq, Prod.mk.injEq] at hr
        obtain ⟨rfl, rfl⟩ := hr
        simp only [Bool.and_eq_true] at hc
        refine ⟨laneChk_ok hc.1.1.1, hc.1.1.2, fun d hd => ⟨?_, sub_iff.1 hc.2 d ((setOf_bit _ _).2 hd)⟩⟩
        cases hb : m.testBit d with
        | false => rfl
        | true =>
          have := disj_spec hc.1.2 d hb
          rw [(setOf_bit _ _).2 hd] at this
          cases this
    · exact tryLanes_ok h
theorem planGo_ok {ops : Array Oper} : ∀ {f m : Nat} {p : List Lane}, planGo ops (ents ops) f m = some p → PlanOk ops m p
  | 0, m, p, h => by
    simp only [planGo] at h
    split at h
    · rename_i hr; cases h; exact .nil fun j hj => by obtain ⟨t, f, hm⟩ := ready_spec.1 hj; rw [hr] at hm; cases hm
    · cases h
  | f + 1, m, p, h => by
    simp only [planGo] at h
    split at h
    · rename_i hr; cases h; exact .nil fun j hj => by obtain ⟨t, f, hm⟩ := ready_spec.1 hj; rw [hr] at hm; cases hm
    · generalize hb : (opsGo (ents ops) 0 ops.size m) = AA at h
      obtain ⟨A, mA⟩ := AA
      simp only at h
      cases hbb : mA.beq m with
      | true =>
        rw [hbb] at h
        simp only [cond_true] at h
        split at h
        · rename_i L mf hL
          obtain ⟨p', hp, rfl⟩ := Option.map_eq_some_iff.1 h
          obtain ⟨g1, g2, g3⟩ := tryLanes_ok hL
          exact .cons (A := L.1) (D := L.2) g1 g2 g3 (planGo_ok hp)
        · cases h
      | false =>
        rw [hbb] at h
        simp only [cond_false] at h
        cases hcc : laneChk (ents ops) [] mA (Nat.succ ops.size) m A with
        | false => rw [hcc] at h; cases h
        | true =>
          rw [hcc] at h
          obtain ⟨p', hp, rfl⟩ := Option.map_eq_some_iff.1 h
          exact .cons (laneChk_ok hcc) (laneApart_nil ops A) (fun d hd => by cases hd) (planGo_ok hp)
/-! ### how many are left -/
def cnt (ops : Array Oper) (m : Nat) : Nat := (List.range ops.size).countP fun j => !m.testBit j
theorem countP_lt {α : Type} {p q : α → Bool} : ∀ {l : List α}, (∀ x, p x = true → q x = true) → (∃ x ∈ l, q x = true ∧ p x = false) → l.countP p < l.countP q
  | [], _, ⟨x, hx, _⟩ => by cases hx
  | y :: l, h, ⟨x, hx, h1, h2⟩ => by
    have hle : l.countP p ≤ l.countP q := List.countP_mono_left fun z _ hz => h z hz
    rw [List.countP_cons, List.countP_cons]
    rcases List.mem_cons.1 hx with rfl | hx
    · rw [h1, h2]; simp; omega
    · have := countP_lt h ⟨x, hx, h1, h2⟩
      cases hp : p y with
      | true => rw [h y hp]; simp; omega
      | false => cases q y <;> simp <;> omega
theorem cnt_lt {ops : Array Oper} {m j : Nat} (h : RdM ops m j) : cnt ops (with1 m j) < cnt ops m := by
  obtain ⟨o, ho, h1, _⟩ := h
  refine countP_lt (fun x hx => ?_) ⟨j, List.mem_range.2 (Array.getElem?_eq_some_iff.1 ho).1, by rw [h1]; rfl, by rw [with1_bit]; simp⟩
  rw [with1_bit] at hx
  cases hb : m.testBit x with
  | false => rfl
  | true => rw [hb] at hx; simp at hx
theorem cnt_le (ops : Array Oper) (m : Nat) : cnt ops m ≤ ops.size := by
  unfold cnt
  exact Nat.le_trans (List.countP_le_length) (by simp)
/-! ### the same operation where other slots differ -/
section
variable {P : Program} {ops : Array Oper} {ro : Option Nat} {m : Nat}
def QOf (QN : Act → World → Prop) : Exit → Act → World → Prop
  | .normal, a, w => QN a w
  | _, _, _ => False
def Same (ops : Array Oper) (o : Oper) (a b : Act) : Prop := a.tmps.size = b.tmps.size ∧ ∀ t ∈ o.looksAt ops, a.tmps.getD t undef = b.tmps.getD t undef
theorem same_eval {o : Oper} {a b : Act} (h : Same ops o a b) : ∀ x ∈ o.op.operands, a.eval x = b.eval x := by
  intro x hx
  cases x with
  | tmp t =>
    have := h.2 t (List.mem_append_left _ (List.mem_filterMap.2 ⟨.tmp t, by simpa using hx, rfl⟩))
    simpa [Act.eval, Array.getD_eq_getD_getElem?] using this
  | _ => rfl
theorem same_exec {o : Oper} {a b : Act} (h : Same ops o a b) (hs : ∀ cs b, o.op ≠ .select cs b) : execOp a.eval o = execOp b.eval o := execOp_congr o hs (same_eval h)
theorem same_wanted {o : Oper} {a b : Act} (h : Same ops o a b) : Region.wanted o (yielded ops a.tmps) = Region.wanted o (yielded ops b.tmps) := by
  unfold Region.wanted
  cases hg : o.guard with
  | none => rfl
  | some gw =>
    obtain ⟨g, want⟩ := gw
    have hy : yielded ops a.tmps g = yielded ops b.tmps g := by
      unfold yielded
      cases ht : (ops[g]?).bind (·.dst) with
      | none => rfl
      | some t =>
        have ht' := h.2 t (by simp [Oper.looksAt, hg, ht])
        simp only [Option.bind_some]
        rcases Nat.lt_or_ge t a.tmps.size with hlt | hge
        · have hlt' : t < b.tmps.size := h.1 ▸ hlt
          simp only [Array.getD_eq_getD_getElem?, Array.getElem?_eq_getElem hlt, Array.getElem?_eq_getElem hlt', Option.getD_some] at ht' ⊢
          rw [ht']
        · rw [Array.getElem?_eq_none hge, Array.getElem?_eq_none (h.1 ▸ hge)]
    simp only [hy]
theorem wpOpIn_like {j : Nat} {o : Oper} {a b : Act} (hj : ops[j]? = some o) (hs : ∀ cs b, o.op ≠ .select cs b) (hnd : ∀ c, o.op ≠ .defer c) (hab : Same ops o a b) {QN : Act → World → Prop} {K K' : Act → World → Prop} {w : World} (hKd : ∀ a' w', K a' w' → a'.defers = a.defers)
    (hK : ∀ v w', K (a.put o.dst v) w' → K' (b.put o.dst v) w') (h : wpOpIn (FW ro) m P ops (QOf QN) j K a w) : wpOpIn (FW ro) m P ops (QOf QN) j K' b w := by
  unfold Go.wpOpIn at *
  simp only [hj] at *
  rw [← same_wanted hab]
  split
  · rename_i hw
    simp only [hw, if_true] at h
    refine ⟨fun _ _ => trivial, ?_⟩
    have h := h.2
    rw [semAt_eq hnd] at h ⊢
    rw [← same_exec hab hs]
    generalize (execOp a.eval o).run P w = r at *
    cases r with
    | ok x w' =>
      cases x <;> simp only [Oper.uponIn] at h ⊢
      case value u => exact hK _ _ h
      case skip => exact hK _ _ h
      case defer d =>
        have := hKd _ _ h
        rw [show (({ a with defers := d :: a.defers } : Act).put o.dst undef).defers = d :: a.defers from by cases o.dst <;> rfl] at this
        exact absurd this (List.cons_ne_self d a.defers)
      case enter f args =>
        refine ⟨h.1, CallsIn.mono h.2 fun e w'' he => ?_⟩
        cases e with
        | returned u => exact hK _ _ he
        | panicked c => exact he.elim
        | outgrown => exact he
      case row row args => exact ⟨h.1, RowsIn.mono h.2 fun u w'' he => hK _ _ he⟩
      case round l f tmps assign body =>
        refine ⟨h.1, RoundIn.mono h.2 fun e w'' he => ?_⟩
        cases e with
        | returned u => exact hK _ _ he
        | panicked c => exact he.elim
        | outgrown => exact he
    | halt x w' =>
      cases x <;> simp only [Oper.uponIn] at h ⊢
      case panic u => exact h.elim
  · rename_i hw
    simp only [hw] at h
    exact ⟨fun _ _ => trivial, hK _ _ h.2⟩
end
end
end Cx
end Go.Proofs.YtboondbognbnnaaGreatDoor

set_option linter.unusedVariables false
set_option linter.unusedSimpArgs false
namespace Go.Proofs.YtboondbognbnnaaGreatDoor
namespace Cx
noncomputable section
/-! ### loads of a region -/
abbrev Ld := Nat × Nat × Nat × List AV
def ldKeep (ms : List Nat) (i : Nat) (h : Hv) : List Ld → Bool
  | [] => true
  | (k, b, o, vs) :: l => (bif inc ms i k then cellsSame h b o vs else true) && ldKeep ms i h l
theorem ldKeep_ok {ms : List Nat} {i : Nat} {h : Hv} : ∀ {l : List Ld}, ldKeep ms i h l = true → ∀ x ∈ l, inc ms i x.1 = true → cellsSame h x.2.1 x.2.2.1 x.2.2.2 = true
  | [], _, x, hx, _ => by cases hx
  | (k, b, o, vs) :: l, hk, x, hx, hi => by
    simp only [ldKeep, Bool.and_eq_true] at hk
    rcases List.mem_cons.1 hx with rfl | hx
    · have := hk.1
      rw [hi] at this
      exact this
    · exact ldKeep_ok hk.2 x hx hi
def ldNo (i : Nat) : List Ld → Bool
  | [] => true
  | x :: l => !(x.1.beq i) && ldNo i l
theorem ldNo_ok {i : Nat} : ∀ {l : List Ld}, ldNo i l = true → ∀ x ∈ l, x.1 ≠ i
  | [], _, x, hx => by cases hx
  | y :: l, hk, x, hx => by
    simp only [ldNo, Bool.and_eq_true, Bool.not_eq_true'] at hk
    rcases List.mem_cons.1 hx with rfl | hx
    · intro e
      rw [e, Nat.beq_refl] at hk
      cases hk.1
    · exact ldNo_ok hk.2 x hx
/-- what a load's cells hold -/
def SL (ρ0 : Env) (Lall : List Ld) (k : Nat) (w : World) : Prop := ∀ l ∈ Lall, l.1 = k → CellsAt ρ0 w l.2.1 l.2.2.1 l.2.2.2
theorem cellsAt_ext {ρ ρ' : Env} {n : Nat} {w : World} {b o : Nat} {vs : List AV} (hρ : ∀ b, b < n → ρ' b = ρ b) (hb : b < n) (hw : AV.wfs ρ n vs) : CellsAt ρ w b o vs ↔ CellsAt ρ' w b o vs := by
  have e : ∀ (i : Nat) (v : AV), vs[i]? = some v → v.conc ρ' = v.conc ρ := fun i v hv => conc_ext hρ v ((wfs_iff ρ n _).1 hw v (List.mem_of_getElem? hv))
  constructor
  · intro h i v hv; rw [hρ b hb, e i v hv]; exact h i v hv
  · intro h i v hv; have := h i v hv; rwa [hρ b hb, e i v hv] at this
theorem cellsAt_grow {ρ : Env} {w w' : World} {b o : Nat} {vs : List AV} (hg : ∀ c, c < w.heap.size → w'.heap[c]? = w.heap[c]?) (h : CellsAt ρ w b o vs) : CellsAt ρ w' b o vs := by
  intro i v hv
  have := h i v hv
  unfold World.cell? at this ⊢
  rcases Nat.lt_or_ge (ρ b).blk w.heap.size with hlt | hge
  · rw [hg _ hlt]; exact this
  · rw [Array.getElem?_eq_none hge] at this; cases this
abbrev Res := Tm × Hp × Nat × List Ld
abbrev Kont := Bool → List Ld → Tm → Hp → Nat → Option Res
/-- a line of operations, then what follows -/
def xOps (P : Program) (C : Cal) (G sz : Nat) (ops : Array Oper) (ms : List Nat) (H0 : Hp) (n0 : Nat) (k : Kont) : List (Nat × Bool) → Kont
  | [], fr, Lp, T, H, n => k fr Lp T H n
  | (i, tk) :: p, fr, Lp, T, H, n => match ops[i]? with
    | none => none
    | some o => match xWanted ops T o with
      | false => match tput T sz o.dst (.lit undef) with
        | some T' => xOps P C G sz ops ms H0 n0 k p fr Lp T' H n
        | none => none
      | true => match tk with
        | true => match loadOf o with
          | some (t, x) => match evA G T x, xLoad P (hv H) t (evA G T x) with
            | .ptr b o', some v => bif Nat.blt b n0 && (fr || cellsSame (hv H0) b o' v.cells) && ldNo i Lp then (match tput T sz o.dst v with
              | some T' => match xOps P C G sz ops ms H0 n0 k p fr ((i, b, o', v.cells) :: Lp) T' H n with
                | some (T2, H2, n2, L) => bif ldNo i L then some (T2, H2, n2, (i, b, o', v.cells) :: L) else none
                | none => none
              | none => none) else none
            | _, _ => none
          | none => match yPure P (evA G T) o with
            | some v => match tput T sz o.dst v with
              | some T' => xOps P C G sz ops ms H0 n0 k p fr Lp T' H n
              | none => none
            | none => none
        | false => match yEff P C (evA G T) H n o with
          | some (v, H', n') => match tput T sz o.dst v with
            | some T' => match xOps P C G sz ops ms H0 n0 k p false Lp T' H' n' with
              | some (T2, H2, n2, L) => bif ldKeep ms i (hv H') (Lp ++ L) then some (T2, H2, n2, L) else none
              | none => none
            | none => none
          | none => none
/-- the same, as facts -/
inductive Run (P : Program) (C : Cal) (G sz : Nat) (ops : Array Oper) (ms : List Nat) (H0 : Hp) (n0 : Nat) (LA : List Ld) (fr1 : Bool) (T1 : Tm) (H1 : Hp) (n1 : Nat) : List (Nat × Bool) → Bool → Tm → Hp → Nat → Prop where
  | nil : Run P C G sz ops ms H0 n0 LA fr1 T1 H1 n1 [] fr1 T1 H1 n1
  | skip {i : Nat} {tk fr : Bool} {o : Oper} {p : List (Nat × Bool)} {T T' : Tm} {H : Hp} {n : Nat} : ops[i]? = some o → xWanted ops T o = false → tput T sz o.dst (.lit undef) = some T' → Run P C G sz ops ms H0 n0 LA fr1 T1 H1 n1 p fr T' H n → Run P C G sz ops ms H0 n0 LA fr1 T1 H1 n1 ((i, tk) :: p) fr T H n
  | load {i : Nat} {fr : Bool} {o : Oper} {p : List (Nat × Bool)} {T T' : Tm} {H : Hp} {n b o' : Nat} {t : TypeId} {x : Operand} {v : AV} : ops[i]? = some o → xWanted ops T o = true → o.op = .load t x → evA G T x = .ptr b o' → xLoad P (hv H) t (evA G T x) = some v → tput T sz o.dst v = some T' →
      b < n0 → (fr = true ∨ cellsSame (hv H0) b o' v.cells = true) → (i, b, o', v.cells) ∈ LA → (∀ l ∈ LA, l.1 = i → l = (i, b, o', v.cells)) → Run P C G sz ops ms H0 n0 LA fr1 T1 H1 n1 p fr T' H n → Run P C G sz ops ms H0 n0 LA fr1 T1 H1 n1 ((i, true) :: p) fr T H n
  | pure {i : Nat} {fr : Bool} {o : Oper} {p : List (Nat × Bool)} {T T' : Tm} {H : Hp} {n : Nat} {v : AV} : ops[i]? = some o → xWanted ops T o = true → xPure P (evA G T) o = some v → tput T sz o.dst v = some T' → Run P C G sz ops ms H0 n0 LA fr1 T1 H1 n1 p fr T' H n → Run P C G sz ops ms H0 n0 LA fr1 T1 H1 n1 ((i, true) :: p) fr T H n
  | eff {i : Nat} {fr : Bool} {o : Oper} {p : List (Nat × Bool)} {T T' : Tm} {H H' : Hp} {n n' : Nat} {v : AV} : ops[i]? = some o → xWanted ops T o = true → xEff P C (evA G T) H n o = some (v, H', n') → tput T sz o.dst v = some T' → (∀ l ∈ LA, inc ms i l.1 = true → cellsSame (hv H') l.2.1 l.2.2.1 l.2.2.2 = true) →
      Run P C G sz ops ms H0 n0 LA fr1 T1 H1 n1 p false T' H' n' → Run P C G sz ops ms H0 n0 LA fr1 T1 H1 n1 ((i, false) :: p) fr T H n
/-- a load's cells lay at the start -/
def LdOk (ρ0 : Env) (n0 : Nat) (l : Ld) : Prop := l.2.1 < n0 ∧ AV.wfs ρ0 n0 l.2.2.2
section
variable {P : Program} {C : Cal} {G sz : Nat} {ops : Array Oper} {ms : List Nat} {H0 : Hp} {n0 : Nat} {ρ0 : Env} {w00 wx : World} {ox : Nat → Prop}
theorem xOps_run (M0 : Mem wx ox G ρ0 (hv H0) n0 w00) {k : Kont} : ∀ {p : List (Nat × Bool)} {fr : Bool} {Lp : List Ld} {T : Tm} {H : Hp} {n : Nat} {T2 : Tm} {H2 : Hp} {n2 : Nat} {L : List Ld}, xOps P C G sz ops ms H0 n0 k p fr Lp T H n = some (T2, H2, n2, L) → (fr = true → H = H0) →
    ∃ fr1 Lp1 T1 H1 n1 L1, k fr1 Lp1 T1 H1 n1 = some (T2, H2, n2, L1) ∧ (fr1 = true → H1 = H0) ∧ (∀ l, l ∈ Lp ∨ l ∈ L ↔ l ∈ Lp1 ∨ l ∈ L1) ∧ (∀ l ∈ L, l ∈ L1 ∨ LdOk ρ0 n0 l) ∧
      ∀ LA : List Ld, (∀ l, l ∈ LA ↔ l ∈ Lp ∨ l ∈ L) → Run P C G sz ops ms H0 n0 LA fr1 T1 H1 n1 p fr T H n
  | [], fr, Lp, T, H, n, T2, H2, n2, L, h, hfr => ⟨fr, Lp, T, H, n, L, h, hfr, fun _ => Iff.rfl, fun _ hl => .inl hl, fun _ _ => .nil⟩
  | (i, tk) :: p, fr, Lp, T, H, n, T2, H2, n2, L, h, hfr => by
    simp only [xOps, yPure_eq, yEff_eq] at h
    split at h
    · cases h
    · rename_i o ho
      cases hw : xWanted ops T o with
      | false =>
        rw [hw] at h
        simp only at h
        split at h
        · rename_i T' ht
          obtain ⟨fr1, Lp1, T1, H1, n1, L1, g1, g2, g3, g4, g5⟩ := xOps_run M0 h hfr
          exact ⟨fr1, Lp1, T1, H1, n1, L1, g1, g2, g3, g4, fun LA hLA => .skip ho hw ht (g5 LA hLA)⟩
        · cases h
      | true =>
        rw [hw] at h
        simp only at h
        cases tk with
        | true =>
          simp only at h
          split at h
          · rename_i t x hop
            have hop := loadOf_some hop
            split at h
            · rename_i b o' v hx hv'
              cases hb : (Nat.blt b n0 && (fr || cellsSame (hv H0) b o' v.cells) && ldNo i Lp) with
              | false => rw [hb] at h; cases h
              | true =>
                rw [hb] at h
                simp only [cond_true] at h
                simp only [Bool.and_eq_true, Nat.blt_eq] at hb
                obtain ⟨⟨hb1, hb2⟩, hb3⟩ := hb
                rw [Bool.or_eq_true] at hb2
                split at h
                · rename_i T' ht
                  split at h
                  · rename_i T3 H3 n3 L' hrec
                    cases hb4 : ldNo i L' with
                    | false => rw [hb4] at h; cases h
                    | true =>
                      rw [hb4] at h
                      simp only [cond_true, Option.some.injEq, Prod.mk.injEq] at h
                      obtain ⟨rfl, rfl, rfl, rfl⟩ := h
                      obtain ⟨fr1, Lp1, T1, H1, n1, L1, g1, g2, g3, g4, g5⟩ := xOps_run M0 hrec hfr
                      have hmem : ∀ l, l ∈ Lp ∨ l ∈ (i, b, o', v.cells) :: L' ↔ l ∈ (i, b, o', v.cells) :: Lp ∨ l ∈ L' := fun l => by
                        simp only [List.mem_cons]
                        constructor
                        · rintro (h | h | h)
                          · exact .inl (.inr h)
                          · exact .inl (.inl h)
                          · exact .inr h
                        · rintro ((h | h) | h)
                          · exact .inr (.inl h)
                          · exact .inl h
                          · exact .inr (.inr h)
                      refine ⟨fr1, Lp1, T1, H1, n1, L1, g1, g2, fun l => (hmem l).trans (g3 l), fun l hl => ?_, fun LA hLA => .load ho hw hop hx hv' ht hb1 hb2 ((hLA _).2 (.inr (by simp))) (fun l hl hli => ?_) (g5 LA fun l => (hLA l).trans (hmem l))⟩
                      · rcases List.mem_cons.1 hl with rfl | hl
                        · refine .inr ⟨hb1, ?_⟩
                          rcases hb2 with hb2 | hb2
                          · have e := hfr hb2
                            subst e
                            obtain ⟨b3, o3, _, _, k2⟩ := xLoad_ok (w0 := wx) (out := ox) (G := G) (ρ := ρ0) (n := n0) hv'
                            exact wf_cells (k2 w00 M0).2
                          · exact (cellsSame_ok hb2 M0).2.1
                        · exact g4 l hl
                      · rcases (hLA l).1 hl with h | h
                        · exact absurd hli (ldNo_ok hb3 l h)
                        · rcases List.mem_cons.1 h with h | h
                          · exact h
                          · exact absurd hli (ldNo_ok hb4 l h)
                  · cases h
                · cases h
            · cases h
          · split at h
            · rename_i v hv'
              split at h
              · rename_i T' ht
                obtain ⟨fr1, Lp1, T1, H1, n1, L1, g1, g2, g3, g4, g5⟩ := xOps_run M0 h hfr
                exact ⟨fr1, Lp1, T1, H1, n1, L1, g1, g2, g3, g4, fun LA hLA => .pure ho hw hv' ht (g5 LA hLA)⟩
              · cases h
            · cases h
        | false =>
          simp only at h
          split at h
          · rename_i v H' n' he
            split at h
            · rename_i T' ht
              split at h
              · rename_i T3 H3 n3 L' hrec
                cases hk : ldKeep ms i (hv H') (Lp ++ L') with
                | false => rw [hk] at h; cases h
                | true =>
                  rw [hk] at h
                  simp only [cond_true, Option.some.injEq, Prod.mk.injEq] at h
                  obtain ⟨rfl, rfl, rfl, rfl⟩ := h
                  obtain ⟨fr1, Lp1, T1, H1, n1, L1, g1, g2, g3, g4, g5⟩ := xOps_run M0 hrec (fun e => by cases e)
                  refine ⟨fr1, Lp1, T1, H1, n1, L1, g1, g2, g3, g4, fun LA hLA => .eff ho hw he ht (fun l hl hi => ?_) (g5 LA hLA)⟩
                  refine ldKeep_ok hk l ?_ hi
                  rcases (hLA l).1 hl with h | h
                  · exact List.mem_append_left _ h
                  · exact List.mem_append_right _ h
              · cases h
            · cases h
          · cases h
end
/-! ### values that ask nothing of the room -/
mutual
def solid (n : Nat) : AV → Bool
  | .lit _ => true
  | .ptr b _ => Nat.blt b n
  | .slc b _ _ _ l (some k) => Nat.blt b n && Nat.ble l k
  | .slc _ _ _ _ _ none => false
  | .mp b => Nat.blt b n
  | .agg l => solids n l
  | .tup l => solids n l
  | .ifc _ v => solid n v
  | .fn _ xs ys => solids n xs && solids n ys
  | .yld b => Nat.blt b n
  | .mrk _ => false
def solids (n : Nat) : List AV → Bool
  | [] => true
  | v :: l => solid n v && solids n l
end
mutual
theorem solid_wf {n m : Nat} (ρ : Env) (hm : n ≤ m) : ∀ (v : AV), solid n v = true → v.wf ρ m
  | .lit _, _ => by simp only [AV.wf]
  | .ptr b _, h => by simp only [solid, Nat.blt_eq] at h; simp only [AV.wf]; omega
  | .slc b _ _ j l (some k), h => by
    simp only [solid, Bool.and_eq_true, Nat.blt_eq, Nat.ble_eq] at h
    simp only [AV.wf]
    exact ⟨by omega, fun e => (by cases e), fun k' e => (by cases e; exact h.2)⟩
  | .slc _ _ _ _ _ none, h => by simp [solid] at h
  | .mp b, h => by simp only [solid, Nat.blt_eq] at h; simp only [AV.wf]; omega
  | .agg l, h => by simp only [solid] at h; simp only [AV.wf]; exact solids_wf ρ hm l h
  | .tup l, h => by simp only [solid] at h; simp only [AV.wf]; exact solids_wf ρ hm l h
  | .ifc _ v, h => by simp only [solid] at h; simp only [AV.wf]; exact solid_wf ρ hm v h
  | .fn _ xs ys, h => by simp only [solid, Bool.and_eq_true] at h; simp only [AV.wf]; exact ⟨solids_wf ρ hm xs h.1, solids_wf ρ hm ys h.2⟩
  | .yld b, h => by simp only [solid, Nat.blt_eq] at h; simp only [AV.wf]; omega
  | .mrk _, h => by simp [solid] at h
theorem solids_wf {n m : Nat} (ρ : Env) (hm : n ≤ m) : ∀ (l : List AV), solids n l = true → AV.wfs ρ m l
  | [], _ => by simp only [AV.wfs]
  | v :: l, h => by simp only [solids, Bool.and_eq_true] at h; simp only [AV.wfs]; exact ⟨solid_wf ρ hm v h.1, solids_wf ρ hm l h.2⟩
end
/-- speaks of this block alone -/
def own (b : Nat) : AV → Bool
  | .ptr c _ => c.beq b
  | .mp c => c.beq b
  | .slc c _ _ _ l (some k) => c.beq b && Nat.ble l k
  | _ => false
theorem own_wf {b m : Nat} {v : AV} (ρ : Env) (h : own b v = true) (hm : b < m) : v.wf ρ m := by
  unfold own at h
  split at h
  · rw [Nat.eq_of_beq_eq_true h]; simp only [AV.wf]; exact hm
  · rw [Nat.eq_of_beq_eq_true h]; simp only [AV.wf]; exact hm
  · rename_i c _ _ _ l k
    simp only [Bool.and_eq_true, Nat.ble_eq] at h
    rw [Nat.eq_of_beq_eq_true h.1]
    simp only [AV.wf]
    exact ⟨hm, fun e => (by cases e), fun k' e => (by cases e; exact h.2)⟩
  · cases h
theorem own_conc {b : Nat} {v : AV} {ρ ρ' : Env} (h : own b v = true) (he : ρ' b = ρ b) : v.conc ρ' = v.conc ρ := by
  unfold own at h
  split at h
  · rw [Nat.eq_of_beq_eq_true h]; simp only [AV.conc, he]
  · rw [Nat.eq_of_beq_eq_true h]; simp only [AV.conc, he]
  · simp only [Bool.and_eq_true] at h
    rw [Nat.eq_of_beq_eq_true h.1]
    simp only [AV.conc, he, capOf]
  · cases h
def entsBelow (n : Nat) : List (Value × AV × Nat) → Bool
  | [] => true
  | x :: l => solid n x.2.1 && entsBelow n l
def aoBelow (n : Nat) : AO → Bool
  | .cells l _ _ => solids n l
  | .map es _ => entsBelow n es
  | _ => false
theorem aoBelow_wf {n : Nat} (ρ : Env) {o : AO} (h : aoBelow n o = true) : AO.wf ρ n o := by
  cases o with
  | cells l e x => exact solids_wf ρ (Nat.le_refl _) l h
  | map es c =>
    simp only [AO.wf]
    simp only [aoBelow] at h
    induction es with
    | nil => intro x hx; cases hx
    | cons y es ih =>
      simp only [entsBelow, Bool.and_eq_true] at h
      intro x hx
      rcases List.mem_cons.1 hx with rfl | hx
      · exact solid_wf ρ (Nat.le_refl _) _ h.1
      · exact ih h.2 x hx
  | loop => simp [aoBelow] at h
  | dfr => simp [aoBelow] at h
theorem objOk_two {ρ ρ' : Env} {n b : Nat} {w w' : World} {o : AO} (hb : ρ' b = ρ b) (hρ : ∀ c, c < n → ρ' c = ρ c) (hw : aoBelow n o = true) (hh : w'.heap[(ρ b).blk]? = w.heap[(ρ b).blk]?) (H : ObjOk ρ w b o) : ObjOk ρ' w' b o := by
  have hwf := aoBelow_wf ρ hw
  cases o with
  | cells l e x =>
    obtain ⟨c, t, h1, h2, h3, h4, h5⟩ := H
    refine ⟨c, t, ?_, fun i v hv => ?_, ?_, ?_, by rw [hb]; exact h5⟩
    · rw [hb, hh]; exact h1
    · rw [hb, h2 i v hv, conc_ext hρ v ((wfs_iff ρ n l).1 hwf v (List.mem_of_getElem? hv))]
    · rw [hb]; exact h3
    · rw [hb]; exact h4
  | map es clock =>
    simp only [ObjOk] at *
    have e : (es.map fun x => ({ key := x.1, val := x.2.1.conc ρ', born := x.2.2 } : MapEntry)) = es.map fun x => ({ key := x.1, val := x.2.1.conc ρ, born := x.2.2 } : MapEntry) :=
      List.map_congr_left fun x hx => by rw [conc_ext hρ x.2.1 (hwf x hx)]
    rw [hb, hh, H, e]
  | loop => simp [aoBelow] at hw
  | dfr => simp [aoBelow] at hw
end
end Cx
end Go.Proofs.YtboondbognbnnaaGreatDoor
