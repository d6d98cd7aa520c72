/- A verified executor of closed calls, part 12: plans; operations that only make a block, beside a line of others. -/
import Derived.Test.YtcpkihikmpkdnaaGreatDoorCk
set_option linter.unusedVariables false
set_option linter.unusedSimpArgs false
namespace Go.Proofs.YtcpkihikmpkdnaaGreatDoor
namespace Cx
noncomputable section
/-! ### plans -/
abbrev Lane := List (Nat × Bool) × List Nat
def findTk : List (Nat × Bool × Bool) → Nat → Option Nat
  | [], _ => none
  | (j, t, _) :: l, s => bif t && !bit s j then some j else findTk l s
def others : List (Nat × Bool × Bool) → Nat → List Nat
  | [], _ => []
  | (j, _, _) :: l, s => bif bit s j then others l s else j :: others l s
/-- along one line, all but 'skip' -/
def opsGo (es : List Ent) (skip : Nat) : Nat → Nat → List (Nat × Bool) × Nat
  | 0, m => ([], m)
  | f + 1, m => match findTk (readyM m 0 es) skip with
    | some i => match opsGo es skip f (with1 m i) with
      | (A, m') => ((i, true) :: A, m')
    | none => match others (readyM m 0 es) skip with
      | [i] => match opsGo es skip f (with1 m i) with
        | (A, m') => ((i, false) :: A, m')
      | _ => ([], m)
def closeD (seeds m : Nat) : Nat → List Ent → Nat → List Nat
  | _, [], _ => []
  | j, e :: l, D => bif bit m j then closeD seeds m (Nat.succ j) l D else
      bif ((e.fl && bit seeds j) || (e.tk && !e.fl && !disj e.need D)) && sub e.need (Nat.lor m D) then j :: closeD seeds m (Nat.succ j) l (with1 D j) else closeD seeds m (Nat.succ j) l D
def inL (j : Nat) : List Nat → Bool
  | [] => false
  | k :: l => j.beq k || inL j l
theorem inL_iff {j : Nat} : ∀ {l : List Nat}, inL j l = true ↔ j ∈ l
  | [] => by simp [inL]
  | k :: l => by simp only [inL, Bool.or_eq_true, inL_iff, List.mem_cons, Tr.beq_dec, decide_eq_true_iff]
def rdy (j : Nat) : List (Nat × Bool × Bool) → Bool
  | [] => false
  | x :: l => j.beq x.1 || rdy j l
def rdyTk (j : Nat) : List (Nat × Bool × Bool) → Bool
  | [] => false
  | x :: l => (j.beq x.1 && x.2.1) || rdyTk j l
/-- every way to mix them -/
def laneChk (es : List Ent) (D : List Nat) (mf : Nat) : Nat → Nat → List (Nat × Bool) → Bool
  | 0, _, _ => false
  | f + 1, m, A => match (readyM m 0 es).find? (fun x => x.2.1 && !x.2.2 && inL x.1 D) with
    | some x => laneChk es D mf f (with1 m x.1) A
    | none => match A with
      | (i, true) :: A' => rdyTk i (readyM m 0 es) && laneChk es D mf f (with1 m i) A'
      | (i, false) :: A' => rdy i (readyM m 0 es) && laneChk es D mf f (with1 m i) A' && (readyM m 0 es).all fun x => x.1.beq i || (inL x.1 D && x.2.2 && laneChk es D mf f (with1 m x.1) ((i, false) :: A'))
      | [] => bif m.beq mf then true else !(readyM m 0 es).isEmpty && (readyM m 0 es).all fun x => inL x.1 D && x.2.2 && laneChk es D mf f (with1 m x.1) []
inductive LaneOk (ops : Array Oper) (D : List Nat) (mf : Nat) : Nat → List (Nat × Bool) → Prop where
  | done : LaneOk ops D mf mf []
  | dtake {m d : Nat} {A : List (Nat × Bool)} : d ∈ D → (∃ o, ops[d]? = some o ∧ (isFlt o && noGuard o) = false) → RdM ops m d → FreeM ops m d → LaneOk ops D mf (with1 m d) A → LaneOk ops D mf m A
  | take {m i : Nat} {A : List (Nat × Bool)} : RdM ops m i → FreeM ops m i → LaneOk ops D mf (with1 m i) A → LaneOk ops D mf m ((i, true) :: A)
  | eff {m i : Nat} {A : List (Nat × Bool)} : RdM ops m i → LaneOk ops D mf (with1 m i) A → (∀ j, RdM ops m j → j ≠ i → j ∈ D ∧ ∃ o, ops[j]? = some o ∧ isFlt o = true) → (∀ j, RdM ops m j → j ≠ i → LaneOk ops D mf (with1 m j) ((i, false) :: A)) → LaneOk ops D mf m ((i, false) :: A)
  | flts {m : Nat} : (∃ j, RdM ops m j) → (∀ j, RdM ops m j → j ∈ D ∧ ∃ o, ops[j]? = some o ∧ isFlt o = true) → (∀ j, RdM ops m j → LaneOk ops D mf (with1 m j) []) → LaneOk ops D mf m []
theorem rdy_ok {j : Nat} : ∀ {l : List (Nat × Bool × Bool)}, rdy j l = true → ∃ t f, (j, t, f) ∈ l
  | [], h => by simp [rdy] at h
  | (k, t, f) :: l, h => by
    simp only [rdy, Bool.or_eq_true] at h
    rcases h with h | h
    · rw [Nat.eq_of_beq_eq_true h]; exact ⟨t, f, by simp⟩
    · obtain ⟨t, f, h⟩ := rdy_ok h; exact ⟨t, f, by simp [h]⟩
theorem rdyTk_ok {j : Nat} : ∀ {l : List (Nat × Bool × Bool)}, rdyTk j l = true → ∃ f, (j, true, f) ∈ l
  | [], h => by simp [rdyTk] at h
  | (k, t, f) :: l, h => by
    simp only [rdyTk, Bool.or_eq_true, Bool.and_eq_true] at h
    rcases h with ⟨h, ht⟩ | h
    · rw [Nat.eq_of_beq_eq_true h]
      have ht : t = true := ht
      subst ht
      exact ⟨f, by simp⟩
    · obtain ⟨f, h⟩ := rdyTk_ok h; exact ⟨f, by simp [h]⟩
theorem ready_notFlt {ops : Array Oper} {m j : Nat} {t : Bool} (h : (j, t, false) ∈ readyM m 0 (ents ops)) : ∃ o, ops[j]? = some o ∧ (isFlt o && noGuard o) = false := by
  obtain ⟨k, e, h1, h2, h3, h4⟩ := readyM_mem.1 h
  simp only [Nat.zero_add, Prod.mk.injEq] at h2 h3
  obtain ⟨rfl, ht, hf⟩ := h2
  rw [ents_get] at h1
  obtain ⟨o, ho, rfl⟩ := Option.map_eq_some_iff.1 h1
  exact ⟨o, ho, hf.symm⟩
theorem laneChk_ok {ops : Array Oper} {D : List Nat} {mf : Nat} : ∀ {f m : Nat} {A : List (Nat × Bool)}, laneChk (ents ops) D mf f m A = true → LaneOk ops D mf m A
  | 0, m, A, h => by simp [laneChk] at h
  | f + 1, m, A, h => by
    unfold laneChk at h
    split at h
    · rename_i x hx
      have hm := List.mem_of_find?_eq_some hx
      have hp := List.find?_some hx
      simp only [Bool.and_eq_true] at hp
      obtain ⟨j, t, fl⟩ := x
      have ht : t = true := hp.1.1
      subst ht
      have hf : fl = false := by simpa using hp.1.2
      subst hf
      exact .dtake (inL_iff.1 hp.2) (ready_notFlt hm) (ready_spec.2 ⟨_, _, hm⟩) (ready_take hm) (laneChk_ok h)
    · split at h
      · rename_i i A'
        simp only [Bool.and_eq_true] at h
        obtain ⟨fl, hm⟩ := rdyTk_ok h.1
        exact .take (ready_spec.2 ⟨_, _, hm⟩) (ready_take hm) (laneChk_ok h.2)
      · rename_i i A'
        simp only [Bool.and_eq_true, List.all_eq_true] at h
        obtain ⟨⟨h1, h2⟩, h3⟩ := h
        obtain ⟨t, fl, hm⟩ := rdy_ok h1
        have key : ∀ j, RdM ops m j → j ≠ i → (j ∈ D ∧ ∃ o, ops[j]? = some o ∧ isFlt o = true) ∧ LaneOk ops D mf (with1 m j) ((i, false) :: A') := fun j hj hne => by
          obtain ⟨t, fl, hmj⟩ := ready_spec.1 hj
          have := h3 _ hmj
          simp only [Bool.or_eq_true, Bool.and_eq_true] at this
          rcases this with h | ⟨⟨g1, g2⟩, g3⟩
          · exact (hne (Nat.eq_of_beq_eq_true h)).elim
          · have g2 : fl = true := g2
            subst g2
            obtain ⟨o, ho, hf, _⟩ := ready_flt hmj
            exact ⟨⟨inL_iff.1 g1, o, ho, hf⟩, laneChk_ok g3⟩
        exact .eff (ready_spec.2 ⟨_, _, hm⟩) (laneChk_ok h2) (fun j hj hne => (key j hj hne).1) (fun j hj hne => (key j hj hne).2)
      · cases hb : m.beq mf with
        | true => rw [Nat.eq_of_beq_eq_true hb]; exact .done
        | false =>
          rw [hb] at h
          simp only [cond_false, Bool.and_eq_true, List.all_eq_true] at h
          obtain ⟨h1, h2⟩ := h
          have key : ∀ j, RdM ops m j → (j ∈ D ∧ ∃ o, ops[j]? = some o ∧ isFlt o = true) ∧ LaneOk ops D mf (with1 m j) [] := fun j hj => by
            obtain ⟨t, fl, hmj⟩ := ready_spec.1 hj
            obtain ⟨⟨g1, g2⟩, g3⟩ := h2 _ hmj
            have g2 : fl = true := g2
            subst g2
            obtain ⟨o, ho, hf, _⟩ := ready_flt hmj
            exact ⟨⟨inL_iff.1 g1, o, ho, hf⟩, laneChk_ok g3⟩
          refine .flts ?_ (fun j hj => (key j hj).1) (fun j hj => (key j hj).2)
          cases hl : readyM m 0 (ents ops) with
          | nil => rw [hl] at h1; simp at h1
          | cons x l => exact ⟨x.1, ready_spec.2 ⟨x.2.1, x.2.2, by rw [hl]; simp⟩⟩
/-- no operation of the line touches what these touch -/
def laneApart (ops : Array Oper) (A : List (Nat × Bool)) (D : List Nat) : Bool :=
  A.all fun x => D.all fun d => match ops[x.1]?, ops[d]? with
    | some oi, some od => apartM (rowOf ops oi) (rowOf ops od)
    | _, _ => false
theorem laneApart_ok {ops : Array Oper} {A : List (Nat × Bool)} {D : List Nat} (h : laneApart ops A D = true) {x : Nat × Bool} (hx : x ∈ A) {d : Nat} (hd : d ∈ D) {oi od : Oper} (hi : ops[x.1]? = some oi) (ho : ops[d]? = some od) : oi.apart ops od = true := by
  simp only [laneApart, List.all_eq_true] at h
  have := h x hx d hd
  rw [hi, ho] at this
  exact apartM_ok this
def seedsOf : List (Nat × Bool × Bool) → List Nat
  | [] => []
  | (j, _, f) :: l => bif f then j :: seedsOf l else seedsOf l
def tryLane (ops : Array Oper) (es : List Ent) (f m : Nat) (seeds : Nat) : Option (Lane × Nat) :=
  match closeD seeds m 0 es 0 with
  | D => match opsGo es (setOf D) f m with
    | (A, mA) => match Nat.lor mA (setOf D) with
      | mf => bif laneChk es D mf (Nat.succ f) m A && laneApart ops A D && disj m (setOf D) && sub (setOf D) mf then some ((A, D), mf) else none
def tryLanes (ops : Array Oper) (es : List Ent) (f m : Nat) : List Nat → Option (Lane × Nat)
  | [] => none
  | s :: l => match tryLane ops es f m s with
    | some r => some r
    | none => tryLanes ops es f m l
def planGo (ops : Array Oper) (es : List Ent) : Nat → Nat → Option (List Lane)
  | 0, m => match readyM m 0 es with
    | [] => some []
    | _ => none
  | f + 1, m => match readyM m 0 es with
    | [] => some []
    | l => match opsGo es 0 ops.size m with
      | (A, mA) => bif mA.beq m then (match tryLanes ops es ops.size m (setOf (seedsOf l) :: (seedsOf l).map (with1 0)) with
          | some (L, mf) => (planGo ops es f mf).map (L :: ·)
          | none => none) else (bif laneChk es [] mA (Nat.succ ops.size) m A then (planGo ops es f mA).map ((A, []) :: ·) else none)
def planOf (ops : Array Oper) : Option (List Lane) := bif Region.noSelect ops && noDefer ops then planGo ops (ents ops) ops.size 0 else none
inductive PlanOk (ops : Array Oper) : Nat → List Lane → Prop where
  | nil {m : Nat} : (∀ j, ¬ RdM ops m j) → PlanOk ops m []
  | cons {m mf : Nat} {A : List (Nat × Bool)} {D : List Nat} {p : List Lane} : LaneOk ops D mf m A → laneApart ops A D = true → (∀ d ∈ D, m.testBit d = false ∧ mf.testBit d = true) → PlanOk ops mf p → PlanOk ops m ((A, D) :: p)
theorem laneApart_nil (ops : Array Oper) (A : List (Nat × Bool)) : laneApart ops A [] = true := by simp [laneApart]
theorem tryLanes_ok {ops : Array Oper} {f m : Nat} : ∀ {l : List Nat} {L : Lane} {mf : Nat}, tryLanes ops (ents ops) f m l = some (L, mf) → LaneOk ops L.2 mf m L.1 ∧ laneApart ops L.1 L.2 = true ∧ ∀ d ∈ L.2, m.testBit d = false ∧ mf.testBit d = true
  | [], L, mf, h => by simp [tryLanes] at h
  | s :: l, L, mf, h => by
    simp only [tryLanes] at h
    split at h
    · rename_i r hr
      cases h
      unfold tryLane at hr
      simp only at hr
      generalize hc : (laneChk _ _ _ _ _ _ && laneApart _ _ _ && disj _ _ && sub _ _) = c at hr
      cases c with
      | false => cases hr
      | true =>
        simp only [cond_true, Option.some.injEq, Prod.mk.injEq] at hr
        obtain ⟨rfl, rfl⟩ := hr
        simp only [Bool.and_eq_true] at hc
        refine ⟨laneChk_ok hc.1.1.1, hc.1.1.2, fun d hd => ⟨?_, sub_iff.1 hc.2 d ((setOf_bit _ _).2 hd)⟩⟩
        cases hb : m.testBit d with
        | false => rfl
        | true =>
          have := disj_spec hc.1.2 d hb
          rw [(setOf_bit _ _).2 hd] at this
          cases this
    · exact tryLanes_ok h
theorem planGo_ok {ops : Array Oper} : ∀ {f m : Nat} {p : List Lane}, planGo ops (ents ops) f m = some p → PlanOk ops m p
  | 0, m, p, h => by
    simp only [planGo] at h
    split at h
    · rename_i hr; cases h; exact .nil fun j hj => by obtain ⟨t, f, hm⟩ := ready_spec.1 hj; rw [hr] at hm; cases hm
    · cases h
  | f + 1, m, p, h => by
    simp only [planGo] at h
    split at h
    · rename_i hr; cases h; exact .nil fun j hj => by obtain ⟨t, f, hm⟩ := ready_spec.1 hj; rw [hr] at hm; cases hm
    · generalize hb : (opsGo (ents ops) 0 ops.size m) = AA at h
      obtain ⟨A, mA⟩ := AA
      simp only at h
      cases hbb : mA.beq m with
      | true =>
        rw [hbb] at h
        simp only [cond_true] at h
        split at h
        · rename_i L mf hL
          obtain ⟨p', hp, rfl⟩ := Option.map_eq_some_iff.1 h
          obtain ⟨g1, g2, g3⟩ := tryLanes_ok hL
          exact .cons (A := L.1) (D := L.2) g1 g2 g3 (planGo_ok hp)
        · cases h
      | false =>
        rw [hbb] at h
        simp only [cond_false] at h
        cases hcc : laneChk (ents ops) [] mA (Nat.succ ops.size) m A with
        | false => rw [hcc] at h; cases h
        | true =>
          rw [hcc] at h
          obtain ⟨p', hp, rfl⟩ := Option.map_eq_some_iff.1 h
          exact .cons (laneChk_ok hcc) (laneApart_nil ops A) (fun d hd => by cases hd) (planGo_ok hp)
/-! ### how many are left -/
def cnt (ops : Array Oper) (m : Nat) : Nat := (List.range ops.size).countP fun j => !m.testBit j
theorem countP_lt {α : Type} {p q : α → Bool} : ∀ {l : List α}, (∀ x, p x = true → q x = true) → (∃ x ∈ l, q x = true ∧ p x = false) → l.countP p < l.countP q
  | [], _, ⟨x, hx, _⟩ => by cases hx
  | y :: l, h, ⟨x, hx, h1, h2⟩ => by
    have hle : l.countP p ≤ l.countP q := List.countP_mono_left fun z _ hz => h z hz
    rw [List.countP_cons, List.countP_cons]
    rcases List.mem_cons.1 hx with rfl | hx
    · rw [h1, h2]; simp; omega
    · have := countP_lt h ⟨x, hx, h1, h2⟩
      cases hp : p y with
      | true => rw [h y hp]; simp; omega
      | false => cases q y <;> simp <;> omega
theorem cnt_lt {ops : Array Oper} {m j : Nat} (h : RdM ops m j) : cnt ops (with1 m j) < cnt ops m := by
  obtain ⟨o, ho, h1, _⟩ := h
  refine countP_lt (fun x hx => ?_) ⟨j, List.mem_range.2 (Array.getElem?_eq_some_iff.1 ho).1, by rw [h1]; rfl, by rw [with1_bit]; simp⟩
  rw [with1_bit] at hx
  cases hb : m.testBit x with
  | false => rfl
  | true => rw [hb] at hx; simp at hx
theorem cnt_le (ops : Array Oper) (m : Nat) : cnt ops m ≤ ops.size := by
  unfold cnt
  exact Nat.le_trans (List.countP_le_length) (by simp)
/-! ### the same operation where other slots differ -/
section
variable {P : Program} {ops : Array Oper} {ro : Option Nat} {m : Nat}
def QOf (QN : Act → World → Prop) : Exit → Act → World → Prop
  | .normal, a, w => QN a w
  | _, _, _ => False
def Same (ops : Array Oper) (o : Oper) (a b : Act) : Prop := a.tmps.size = b.tmps.size ∧ ∀ t ∈ o.looksAt ops, a.tmps.getD t undef = b.tmps.getD t undef
theorem same_eval {o : Oper} {a b : Act} (h : Same ops o a b) : ∀ x ∈ o.op.operands, a.eval x = b.eval x := by
  intro x hx
  cases x with
  | tmp t =>
    have := h.2 t (List.mem_append_left _ (List.mem_filterMap.2 ⟨.tmp t, by simpa using hx, rfl⟩))
    simpa [Act.eval, Array.getD_eq_getD_getElem?] using this
  | _ => rfl
theorem same_exec {o : Oper} {a b : Act} (h : Same ops o a b) (hs : ∀ cs b, o.op ≠ .select cs b) : execOp a.eval o = execOp b.eval o := execOp_congr o hs (same_eval h)
theorem same_wanted {o : Oper} {a b : Act} (h : Same ops o a b) : Region.wanted o (yielded ops a.tmps) = Region.wanted o (yielded ops b.tmps) := by
  unfold Region.wanted
  cases hg : o.guard with
  | none => rfl
  | some gw =>
    obtain ⟨g, want⟩ := gw
    have hy : yielded ops a.tmps g = yielded ops b.tmps g := by
      unfold yielded
      cases ht : (ops[g]?).bind (·.dst) with
      | none => rfl
      | some t =>
        have ht' := h.2 t (by simp [Oper.looksAt, hg, ht])
        simp only [Option.bind_some]
        rcases Nat.lt_or_ge t a.tmps.size with hlt | hge
        · have hlt' : t < b.tmps.size := h.1 ▸ hlt
          simp only [Array.getD_eq_getD_getElem?, Array.getElem?_eq_getElem hlt, Array.getElem?_eq_getElem hlt', Option.getD_some] at ht' ⊢
          rw [ht']
        · rw [Array.getElem?_eq_none hge, Array.getElem?_eq_none (h.1 ▸ hge)]
    simp only [hy]
theorem wpOpIn_like {j : Nat} {o : Oper} {a b : Act} (hj : ops[j]? = some o) (hs : ∀ cs b, o.op ≠ .select cs b) (hnd : ∀ c, o.op ≠ .defer c) (hab : Same ops o a b) {QN : Act → World → Prop} {K K' : Act → World → Prop} {w : World} (hKd : ∀ a' w', K a' w' → a'.defers = a.defers)
    (hK : ∀ v w', K (a.put o.dst v) w' → K' (b.put o.dst v) w') (h : wpOpIn (FW ro) m P ops (QOf QN) j K a w) : wpOpIn (FW ro) m P ops (QOf QN) j K' b w := by
  unfold Go.wpOpIn at *
  simp only [hj] at *
  rw [← same_wanted hab]
  split
  · rename_i hw
    simp only [hw, if_true] at h
    refine ⟨fun _ _ => trivial, ?_⟩
    have h := h.2
    rw [semAt_eq hnd] at h ⊢
    rw [← same_exec hab hs]
    generalize (execOp a.eval o).run P w = r at *
    cases r with
    | ok x w' =>
      cases x <;> simp only [Oper.uponIn] at h ⊢
      case value u => exact hK _ _ h
      case skip => exact hK _ _ h
      case defer d =>
        have := hKd _ _ h
        rw [show (({ a with defers := d :: a.defers } : Act).put o.dst undef).defers = d :: a.defers from by cases o.dst <;> rfl] at this
        exact absurd this (List.cons_ne_self d a.defers)
      case enter f args =>
        refine ⟨h.1, CallsIn.mono h.2 fun e w'' he => ?_⟩
        cases e with
        | returned u => exact hK _ _ he
        | panicked c => exact he.elim
        | outgrown => exact he
      case row row args => exact ⟨h.1, RowsIn.mono h.2 fun u w'' he => hK _ _ he⟩
      case round l f tmps assign body =>
        refine ⟨h.1, RoundIn.mono h.2 fun e w'' he => ?_⟩
        cases e with
        | returned u => exact hK _ _ he
        | panicked c => exact he.elim
        | outgrown => exact he
    | halt x w' =>
      cases x <;> simp only [Oper.uponIn] at h ⊢
      case panic u => exact h.elim
  · rename_i hw
    simp only [hw] at h
    exact ⟨fun _ _ => trivial, hK _ _ h.2⟩
end
end
end Cx
end Go.Proofs.YtcpkihikmpkdnaaGreatDoor
