/- A verified executor of closed calls, part 14: blocks that are made beside a line: what they are. A verified executor of closed calls, part 15: a line beside which blocks are made, in every order. A verified executor of closed calls, part 16: regions that draw their order. -/
import Derived.Test.YtboondbognbnnaaGreatDoorQCD
set_option linter.unusedVariables false
set_option linter.unusedSimpArgs false
set_option linter.unusedVariables false
set_option linter.unusedSimpArgs false
namespace Go.Proofs.YtboondbognbnnaaGreatDoor
namespace Cx
noncomputable section
structure Item where
  i : Nat
  o : Oper
  t : Nat
  v : AV
  ob : Option (Nat × AO)
def putIts (T : Tm) (its : List Item) : Tm := its.foldl (fun T x => Tr.set 9 T x.t (some x.v)) T
def putObs (H : Hp) (its : List Item) : Hp := its.foldl (fun H x => match x.ob with | some (b, ao) => Tr.set 20 H b (some ao) | none => H) H
def hasIt (need t : Nat) : List Item → Bool
  | [] => false
  | y :: l => (y.t.beq t && bit need y.i) || hasIt need t l
def newT (t : Nat) : List Item → Bool
  | [] => true
  | y :: l => !y.t.beq t && newT t l
def looksChk (need : Nat) (acc : List Item) (dsts : List Nat) : List Nat → Bool
  | [] => true
  | t :: l => (!inL t dsts || hasIt need t acc) && looksChk need acc dsts l
def dstsOf (ops : Array Oper) : List Nat → List Nat
  | [] => []
  | d :: ds => match (ops[d]?).bind (·.dst) with
    | some t => t :: dstsOf ops ds
    | none => dstsOf ops ds
def xItems (P : Program) (C : Cal) (G sz : Nat) (ops : Array Oper) (n0 : Nat) (T0 : Tm) (dsts : List Nat) : List Nat → List Item → Nat → Option (List Item × Nat)
  | [], acc, n => some (acc, n)
  | d :: ds, acc, n => match ops[d]? with
    | none => none
    | some o => match o.guard, o.dst with
      | none, some t => bif looksChk (needL o.after.toList) acc dsts (o.looksAt ops) && newT t acc && inL t dsts && Nat.blt t sz && Nat.blt t 510 && Nat.blt (n + 1) 1048576 then (match isFlt o with
          | true => match yEff P C (evA G (putIts T0 acc)) .leaf n o with
            | some (v, H', n') => match hv H' n with
              | some ao => bif n'.beq (n + 1) && own n v && aoBelow n0 ao then xItems P C G sz ops n0 T0 dsts ds (acc ++ [⟨d, o, t, v, some (n, ao)⟩]) (n + 1) else none
              | none => none
            | none => none
          | false => match yPure P (evA G (putIts T0 acc)) o with
            | some v => bif solid n v then xItems P C G sz ops n0 T0 dsts ds (acc ++ [⟨d, o, t, v, none⟩]) n else none
            | none => none) else none
      | _, _ => none
theorem hasIt_ok {need t : Nat} : ∀ {l : List Item}, hasIt need t l = true → ∃ y ∈ l, y.t = t ∧ need.testBit y.i = true
  | [], h => by simp [hasIt] at h
  | y :: l, h => by
    simp only [hasIt, Bool.or_eq_true, Bool.and_eq_true, bit_eq] at h
    rcases h with h | h
    · exact ⟨y, by simp, Nat.eq_of_beq_eq_true h.1, h.2⟩
    · obtain ⟨z, hz, hh⟩ := hasIt_ok h; exact ⟨z, by simp [hz], hh⟩
theorem newT_ok {t : Nat} : ∀ {l : List Item}, newT t l = true → ∀ y ∈ l, y.t ≠ t
  | [], _, y, hy => by cases hy
  | z :: l, h, y, hy => by
    simp only [newT, Bool.and_eq_true, Bool.not_eq_true'] at h
    rcases List.mem_cons.1 hy with rfl | hy
    · intro e; rw [e, Nat.beq_refl] at h; cases h.1
    · exact newT_ok h.2 y hy
theorem looksChk_ok {need : Nat} {acc : List Item} {dsts : List Nat} : ∀ {l : List Nat}, looksChk need acc dsts l = true → ∀ t ∈ l, t ∈ dsts → ∃ y ∈ acc, y.t = t ∧ need.testBit y.i = true
  | [], _, t, ht, _ => by cases ht
  | s :: l, h, t, ht, hd => by
    simp only [looksChk, Bool.and_eq_true, Bool.or_eq_true, Bool.not_eq_true'] at h
    rcases List.mem_cons.1 ht with rfl | ht
    · rcases h.1 with h1 | h1
      · rw [inL_iff.2 hd] at h1; cases h1
      · exact hasIt_ok h1
    · exact looksChk_ok h.2 t ht hd
/-- one of them, behind those of 'acc' -/
structure Fit (ops : Array Oper) (sz : Nat) (dsts : List Nat) (acc : List Item) (n : Nat) (x : Item) : Prop where
  op : ops[x.i]? = some x.o
  guard : x.o.guard = none
  dst : x.o.dst = some x.t
  lt : x.t < sz
  lt2 : x.t < 510
  big : n + 1 < 1048576
  fresh : ∀ y ∈ acc, y.t ≠ x.t
  mem : x.t ∈ dsts
  looks : ∀ t ∈ x.o.looksAt ops, t ∈ dsts → ∃ y ∈ acc, y.t = t ∧ ∃ e ∈ x.o.after, Region.binds .any e = true ∧ e.on = y.i
def TakeFit (P : Program) (G : Nat) (T0 : Tm) (acc : List Item) (n : Nat) (x : Item) : Prop := x.ob = none ∧ isFlt x.o = false ∧ xPure P (evA G (putIts T0 acc)) x.o = some x.v ∧ solid n x.v = true
def FltFit (P : Program) (C : Cal) (G n0 : Nat) (T0 : Tm) (acc : List Item) (n : Nat) (x : Item) : Prop := ∃ ao H', x.ob = some (n, ao) ∧ isFlt x.o = true ∧ xEff P C (evA G (putIts T0 acc)) .leaf n x.o = some (x.v, H', n + 1) ∧ hv H' n = some ao ∧ own n x.v = true ∧ aoBelow n0 ao = true
inductive Chain (P : Program) (C : Cal) (G sz : Nat) (ops : Array Oper) (n0 : Nat) (T0 : Tm) (dsts : List Nat) (n1 : Nat) : List Item → Nat → Prop where
  | nil : Chain P C G sz ops n0 T0 dsts n1 [] n1
  | take {acc : List Item} {n : Nat} {x : Item} : Chain P C G sz ops n0 T0 dsts n1 acc n → Fit ops sz dsts acc n x → TakeFit P G T0 acc n x → Chain P C G sz ops n0 T0 dsts n1 (acc ++ [x]) n
  | flt {acc : List Item} {n : Nat} {x : Item} : Chain P C G sz ops n0 T0 dsts n1 acc n → Fit ops sz dsts acc n x → FltFit P C G n0 T0 acc n x → Chain P C G sz ops n0 T0 dsts n1 (acc ++ [x]) (n + 1)
section
variable {P : Program} {C : Cal} {G sz : Nat} {ops : Array Oper} {n0 : Nat} {T0 : Tm} {dsts : List Nat} {n1 : Nat}
theorem xItems_ok : ∀ {ds : List Nat} {acc : List Item} {n : Nat} {its : List Item} {n2 : Nat}, xItems P C G sz ops n0 T0 dsts ds acc n = some (its, n2) → Chain P C G sz ops n0 T0 dsts n1 acc n → Chain P C G sz ops n0 T0 dsts n1 its n2 ∧ its.map (·.i) = acc.map (·.i) ++ ds
  | [], acc, n, its, n2, h, hc => by
    simp only [xItems, Option.some.injEq, Prod.mk.injEq] at h
    obtain ⟨rfl, rfl⟩ := h
    exact ⟨hc, by simp⟩
  | d :: ds, acc, n, its, n2, h, hc => by
    simp only [xItems, yPure_eq, yEff_eq] at h
    split at h
    · cases h
    · rename_i o ho
      split at h
      · rename_i t hg hd
        generalize hcd : (looksChk _ _ _ _ && newT _ _ && inL _ _ && Nat.blt t sz && Nat.blt t 510 && Nat.blt (n + 1) 1048576) = c at h
        cases c with
        | false => cases h
        | true =>
          simp only [cond_true] at h
          simp only [Bool.and_eq_true, Nat.blt_eq] at hcd
          obtain ⟨⟨⟨⟨⟨c1, c2⟩, c3⟩, c4⟩, c5⟩, c6⟩ := hcd
          have fit : ∀ v ob, Fit ops sz dsts acc n ⟨d, o, t, v, ob⟩ := fun v ob =>
            ⟨ho, hg, hd, c4, c5, c6, newT_ok c2, inL_iff.1 c3, fun t ht hd' => by
              obtain ⟨y, hy, he, hb⟩ := looksChk_ok c1 t ht hd'
              obtain ⟨e, he', hb', hon⟩ := (needL_bit _ _).1 hb
              exact ⟨y, hy, he, e, Array.mem_toList_iff.1 he', hb', hon⟩⟩
          cases hf : isFlt o with
          | true =>
            rw [hf] at h
            simp only at h
            split at h
            · rename_i v H' n' hx
              split at h
              · rename_i ao hao
                cases hcc : (n'.beq (n + 1) && own n v && aoBelow n0 ao) with
                | false => rw [hcc] at h; cases h
                | true =>
                  rw [hcc] at h
                  simp only [cond_true] at h
                  simp only [Bool.and_eq_true] at hcc
                  have e := Nat.eq_of_beq_eq_true hcc.1.1
                  subst e
                  obtain ⟨g1, g2⟩ := xItems_ok h (.flt hc (fit v (some (n, ao))) ⟨ao, H', rfl, hf, hx, hao, hcc.1.2, hcc.2⟩)
                  exact ⟨g1, by rw [g2]; simp⟩
              · cases h
            · cases h
          | false =>
            rw [hf] at h
            simp only at h
            split at h
            · rename_i v hx
              cases hs : solid n v with
              | false => rw [hs] at h; cases h
              | true =>
                rw [hs] at h
                simp only [cond_true] at h
                obtain ⟨g1, g2⟩ := xItems_ok h (.take hc (fit v none) ⟨rfl, hf, hx, hs⟩)
                exact ⟨g1, by rw [g2]; simp⟩
            · cases h
      · cases h
theorem Chain.le {acc : List Item} {n : Nat} (h : Chain P C G sz ops n0 T0 dsts n1 acc n) : n1 ≤ n := by
  induction h with
  | nil => exact Nat.le_refl _
  | take _ _ _ ih => exact ih
  | flt _ _ _ ih => omega
theorem Chain.uniq {acc : List Item} {n : Nat} (h : Chain P C G sz ops n0 T0 dsts n1 acc n) : ∀ x ∈ acc, ∀ y ∈ acc, x.t = y.t → x = y := by
  induction h with
  | nil => intro x hx; cases hx
  | take _ f _ ih | flt _ f _ ih =>
    intro x hx y hy e
    rcases List.mem_append.1 hx with hx1 | hx <;> rcases List.mem_append.1 hy with hy1 | hy
    · exact ih x hx1 y hy1 e
    · rw [List.mem_singleton] at hy; subst hy; exact (f.fresh x hx1 e).elim
    · rw [List.mem_singleton] at hx; subst hx; exact (f.fresh y hy1 e.symm).elim
    · rw [List.mem_singleton] at hx hy; rw [hx, hy]
theorem Chain.ob {acc : List Item} {n : Nat} (h : Chain P C G sz ops n0 T0 dsts n1 acc n) : ∀ x ∈ acc, ∀ b ao, x.ob = some (b, ao) → n1 ≤ b ∧ b < n ∧ b + 1 < 1048576 ∧ aoBelow n0 ao = true ∧ own b x.v = true := by
  induction h with
  | nil => intro x hx; cases hx
  | take _ f t ih =>
    intro x hx b ao hob
    rcases List.mem_append.1 hx with hx | hx
    · exact ih x hx b ao hob
    · rw [List.mem_singleton] at hx; subst hx; rw [t.1] at hob; cases hob
  | flt hc f t ih =>
    intro x hx b ao hob
    rcases List.mem_append.1 hx with hx | hx
    · obtain ⟨g1, g2, g3, g4⟩ := ih x hx b ao hob; exact ⟨g1, by omega, g3, g4⟩
    · rw [List.mem_singleton] at hx; subst hx
      obtain ⟨ao', H', t1, _, _, _, t5, t6⟩ := t
      rw [t1] at hob
      cases hob
      exact ⟨hc.le, by omega, f.big, t6, t5⟩
theorem Chain.wf {acc : List Item} {n : Nat} (h : Chain P C G sz ops n0 T0 dsts n1 acc n) (ρ : Env) {m : Nat} (hm : n ≤ m) : ∀ x ∈ acc, x.v.wf ρ m := by
  induction h generalizing m with
  | nil => intro x hx; cases hx
  | take _ f t ih =>
    intro x hx
    rcases List.mem_append.1 hx with hx | hx
    · exact ih hm x hx
    · rw [List.mem_singleton] at hx; subst hx; exact solid_wf ρ hm _ t.2.2.2
  | flt hc f t ih =>
    intro x hx
    rcases List.mem_append.1 hx with hx | hx
    · exact ih (by omega) x hx
    · rw [List.mem_singleton] at hx; subst hx
      obtain ⟨ao', H', t1, _, _, _, t5, t6⟩ := t
      exact own_wf ρ t5 (by omega)
theorem Chain.obUniq {acc : List Item} {n : Nat} (h : Chain P C G sz ops n0 T0 dsts n1 acc n) : ∀ x ∈ acc, ∀ y ∈ acc, ∀ b ao ao', x.ob = some (b, ao) → y.ob = some (b, ao') → x = y := by
  induction h with
  | nil => intro x hx; cases hx
  | take _ f t ih =>
    intro x hx y hy b ao ao' h1 h2
    rcases List.mem_append.1 hx with hx | hx <;> rcases List.mem_append.1 hy with hy | hy
    · exact ih x hx y hy b ao ao' h1 h2
    · rw [List.mem_singleton] at hy; subst hy; rw [t.1] at h2; cases h2
    · rw [List.mem_singleton] at hx; subst hx; rw [t.1] at h1; cases h1
    · rw [List.mem_singleton] at hx hy; rw [hx, hy]
  | flt hc f t ih =>
    obtain ⟨ao3, H', t1, _⟩ := t
    intro x hx y hy b ao ao' h1 h2
    rcases List.mem_append.1 hx with hx1 | hx <;> rcases List.mem_append.1 hy with hy1 | hy
    · exact ih x hx1 y hy1 b ao ao' h1 h2
    · have h3 := (hc.ob x hx1 b ao h1).2.1
      rw [List.mem_singleton] at hy; subst hy; rw [t1] at h2; simp only [Option.some.injEq, Prod.mk.injEq] at h2; omega
    · have h3 := (hc.ob y hy1 b ao' h2).2.1
      rw [List.mem_singleton] at hx; subst hx; rw [t1] at h1; simp only [Option.some.injEq, Prod.mk.injEq] at h1; omega
    · rw [List.mem_singleton] at hx hy; rw [hx, hy]
theorem putIts_snoc (T : Tm) (acc : List Item) (x : Item) : putIts T (acc ++ [x]) = Tr.set 9 (putIts T acc) x.t (some x.v) := by simp [putIts]
theorem tget_set (T : Tm) (k : Nat) (v : AV) (hk : k < 510) (t : Nat) : tget (Tr.set 9 T k (some v)) t = if t = k then v else tget T t := by
  unfold tget
  rw [Tr.get_set 9 T k t _ (by omega)]
  by_cases e : t = k <;> simp [e]
theorem Chain.get {acc : List Item} {n : Nat} (h : Chain P C G sz ops n0 T0 dsts n1 acc n) (T : Tm) : (∀ x ∈ acc, tget (putIts T acc) x.t = x.v) ∧ ∀ t, (∀ x ∈ acc, x.t ≠ t) → tget (putIts T acc) t = tget T t := by
  induction h with
  | nil => exact ⟨fun x hx => (by cases hx), fun t _ => rfl⟩
  | take _ f _ ih | flt _ f _ ih =>
    refine ⟨fun x hx => ?_, fun t ht => ?_⟩
    · rw [putIts_snoc, tget_set _ _ _ f.lt2]
      rcases List.mem_append.1 hx with hx | hx
      · rw [if_neg (f.fresh x hx)]; exact ih.1 x hx
      · rw [List.mem_singleton] at hx; subst hx; rw [if_pos rfl]
    · rw [putIts_snoc, tget_set _ _ _ f.lt2, if_neg (Ne.symm (ht _ (List.mem_append_right _ (by simp))))]
      exact ih.2 t fun y hy => ht y (List.mem_append_left _ hy)
theorem Chain.obs {acc : List Item} {n : Nat} (h : Chain P C G sz ops n0 T0 dsts n1 acc n) (H : Hp) : (∀ x ∈ acc, ∀ b ao, x.ob = some (b, ao) → hv (putObs H acc) b = some ao) ∧ ∀ b, (∀ x ∈ acc, ∀ ao, x.ob ≠ some (b, ao)) → hv (putObs H acc) b = hv H b := by
  induction h with
  | nil => exact ⟨fun x hx => (by cases hx), fun t _ => rfl⟩
  | @take acc n x _ f t ih =>
    have e : putObs H (acc ++ [x]) = putObs H acc := by simp [putObs, t.1]
    rw [e]
    refine ⟨fun y hy b ao hob => ?_, fun b hb => ih.2 b fun y hy => hb y (List.mem_append_left _ hy)⟩
    rcases List.mem_append.1 hy with hy | hy
    · exact ih.1 y hy b ao hob
    · rw [List.mem_singleton] at hy; subst hy; rw [t.1] at hob; cases hob
  | @flt acc n x hc f t ih =>
    obtain ⟨ao3, H', t1, _⟩ := t
    have e : putObs H (acc ++ [x]) = Tr.set 20 (putObs H acc) n (some ao3) := by simp [putObs, t1]
    rw [e, hv_set _ _ _ f.big]
    refine ⟨fun y hy b ao hob => ?_, fun b hb => ?_⟩
    · rcases List.mem_append.1 hy with hy | hy
      · have := (hc.ob y hy b ao hob).2.1
        rw [upd_other _ _ (by omega)]
        exact ih.1 y hy b ao hob
      · rw [List.mem_singleton] at hy; subst hy; rw [t1] at hob; cases hob; rw [upd_same]
    · have : b ≠ n := fun e => hb x (List.mem_append_right _ (by simp)) ao3 (by rw [t1, e])
      rw [upd_other _ _ this]
      exact ih.2 b fun y hy => hb y (List.mem_append_left _ hy)
theorem Chain.fit {acc : List Item} {n : Nat} (h : Chain P C G sz ops n0 T0 dsts n1 acc n) : ∀ x ∈ acc, ∃ pre k, Chain P C G sz ops n0 T0 dsts n1 pre k ∧ (∀ y ∈ pre, y ∈ acc) ∧ Fit ops sz dsts pre k x ∧ k ≤ n ∧ (TakeFit P G T0 pre k x ∨ FltFit P C G n0 T0 pre k x) := by
  induction h with
  | nil => intro x hx; cases hx
  | @take acc n x hc f t ih =>
    intro y hy
    rcases List.mem_append.1 hy with hy | hy
    · obtain ⟨pre, k, g1, g2, g3, g4, g5⟩ := ih y hy; exact ⟨pre, k, g1, fun z hz => List.mem_append_left _ (g2 z hz), g3, g4, g5⟩
    · rw [List.mem_singleton] at hy; subst hy; exact ⟨acc, n, hc, fun z hz => List.mem_append_left _ hz, f, Nat.le_refl _, .inl t⟩
  | @flt acc n x hc f t ih =>
    intro y hy
    rcases List.mem_append.1 hy with hy | hy
    · obtain ⟨pre, k, g1, g2, g3, g4, g5⟩ := ih y hy; exact ⟨pre, k, g1, fun z hz => List.mem_append_left _ (g2 z hz), g3, by omega, g5⟩
    · rw [List.mem_singleton] at hy; subst hy; exact ⟨acc, n, hc, fun z hz => List.mem_append_left _ hz, f, by omega, .inr t⟩
end
/-- an activation whose slots hold what T says -/
def actOf (ρ : Env) (T : Tm) (sz : Nat) : Act := { tmps := (Array.range sz).map fun t => (tget T t).conc ρ, defers := marksOf ρ (markL (tget T 510)) }
theorem actOf_get (ρ : Env) (T : Tm) (sz t : Nat) (hb : sz ≤ t → (tget T t).conc ρ = undef) : (actOf ρ T sz).tmps.getD t undef = (tget T t).conc ρ := by
  unfold actOf
  rcases Nat.lt_or_ge t sz with h | h
  · simp [Array.getD_eq_getD_getElem?, h]
  · rw [hb h]
    simp only [Array.getD_eq_getD_getElem?]
    rw [Array.getElem?_eq_none (by simpa using h)]
    rfl
theorem actOf_ok {ρ : Env} {n : Nat} {T : Tm} {sz : Nat} (hw : ∀ t, (tget T t).wf ρ n) (hb : ∀ t, sz ≤ t → (tget T t).conc ρ = undef) : ActOk ρ n T sz (actOf ρ T sz) :=
  ⟨by simp [actOf], fun t => actOf_get ρ T sz t (hb t), hw, rfl⟩
/-- nothing named, all as it lies -/
theorem memNil {G n : Nat} {ρ : Env} (w : World) (hg : ∀ g, g < G → ρ g = ⟨g, 0, 1⟩) (hn : G ≤ n) (hh : Here w (fun c => c < w.heap.size)) : Mem w (fun c => c < w.heap.size) G ρ (hv .leaf) n w :=
  have e : ∀ b o, hv .leaf b = some o → False := fun b o h => by unfold hv at h; rw [Tr.get_leaf] at h; cases h
  ⟨fun b o h => (e b o h).elim, fun b o h => (e b o h).elim, fun b o h => (e b o h).elim, fun b b' o o' h => (e b o h).elim, fun c hc => ⟨hc, rfl⟩, fun b o h => (e b o h).elim, hg, hn, ⟨⟨rfl, rfl, rfl⟩, hh⟩⟩
end
end Cx
end Go.Proofs.YtboondbognbnnaaGreatDoor

set_option linter.unusedVariables false
set_option linter.unusedSimpArgs false
namespace Go.Proofs.YtboondbognbnnaaGreatDoor
namespace Cx
noncomputable section
def Good (ρs : Env) (ns : Nat) (its : List Item) (m : Nat) (sp : Nat → Spot) (ρ' : Env) : Prop := (∀ b, b < ns → ρ' b = ρs b) ∧ ∀ x ∈ its, m.testBit x.i = true → ∀ b ao, x.ob = some (b, ao) → ρ' b = sp b
structure LInv (G sz : Nat) (ops : Array Oper) (ns : Nat) (ρs : Env) (T0 : Tm) (its : List Item) (w0 : World) (out : Nat → Prop) (m : Nat) (T : Tm) (H : Hp) (n : Nat) (ρ : Env) (sp : Nat → Spot) (wr : World) (outr : Nat → Prop) (a : Act) (w : World) : Prop where
  mem : Mem wr outr G ρ (hv H) n w
  base : ∀ b, b < ns → ρ b = ρs b
  le : ns ≤ n
  size : a.tmps.size = sz
  defers : a.defers = marksOf ρ (markL (tget T 510))
  val : ∀ t, (∀ x ∈ its, m.testBit x.i = true → x.t ≠ t) → a.tmps.getD t undef = (tget T t).conc ρ
  wf : ∀ t, (tget T t).wf ρ n
  big : ∀ t, sz ≤ t → (tget T t).conc ρ = undef
  keep : ∀ x ∈ its, ∀ t ∈ x.o.looksAt ops, tget T t = tget T0 t
  itv : ∀ ρ', Good ρs ns its m sp ρ' → ∀ x ∈ its, m.testBit x.i = true → a.tmps.getD x.t undef = x.v.conc ρ'
  ito : ∀ ρ', Good ρs ns its m sp ρ' → ∀ x ∈ its, m.testBit x.i = true → ∀ b ao, x.ob = some (b, ao) → ObjOk ρ' w b ao
  its1 : ∀ x ∈ its, m.testBit x.i = true → ∀ b ao, x.ob = some (b, ao) → outr (sp b).blk ∧ ¬ out (sp b).blk
  itd : ∀ x ∈ its, ∀ y ∈ its, m.testBit x.i = true → m.testBit y.i = true → ∀ b ao b' ao', x.ob = some (b, ao) → y.ob = some (b', ao') → (sp b).blk = (sp b').blk → b = b'
  frm : ∀ c, out c → outr c ∧ wr.heap[c]? = w0.heap[c]?
  env : EnvOk w0 out wr
theorem getD_put (a : Act) (d : Nat) (v : Value) (hd : d < a.tmps.size) (t : Nat) : (a.put (some d) v).tmps.getD t undef = if t = d then v else a.tmps.getD t undef := by
  simp only [Act.put, Array.getD_eq_getD_getElem?]
  by_cases e : t = d
  · subst e; rw [if_pos rfl, Array.getElem?_setIfInBounds_self_of_lt hd]; rfl
  · rw [if_neg e, Array.getElem?_setIfInBounds_ne (Ne.symm e)]
theorem size_put (a : Act) (d : Option Nat) (v : Value) : (a.put d v).tmps.size = a.tmps.size := by cases d <;> simp [Act.put]
theorem defers_put (a : Act) (d : Option Nat) (v : Value) : (a.put d v).defers = a.defers := by cases d <;> rfl
section
variable {P : Program} {C : Cal} {G sz : Nat} {ops : Array Oper} {ms : List Nat} {H0 : Hp} {n0 : Nat} {ρ0 : Env} {LA : List Ld} {D : List Nat} {mf : Nat} {its : List Item} {n1 n2 : Nat} {T0 : Tm} {dsts : List Nat} {ns : Nat} {ρs : Env} {w0 : World} {out : Nat → Prop}
/-- what is fixed all along -/
structure Fixed (P : Program) (C : Cal) (G sz : Nat) (ops : Array Oper) (ns : Nat) (ρs : Env) (T0 : Tm) (dsts : List Nat) (n1 n2 : Nat) (its : List Item) : Prop where
  cal : CalOk P G C
  chain : Chain P C G sz ops ns T0 dsts n1 its n2
  wf : ∀ t, (tget T0 t).wf ρs ns
  big : ∀ t, sz ≤ t → (tget T0 t).conc ρs = undef
  glob : ∀ g, g < G → ρs g = ⟨g, 0, 1⟩
  globs : G ≤ ns
  le : ns ≤ n1
  nosel : ∀ (j : Nat) (o : Oper) cs b, ops[j]? = some o → o.op ≠ .select cs b
  nodef : ∀ (j : Nat) (o : Oper) c, ops[j]? = some o → o.op ≠ .defer c
variable {m : Nat} {T : Tm} {H : Hp} {n : Nat} {ρ : Env} {sp : Nat → Spot} {wr : World} {outr : Nat → Prop} {a : Act} {w : World}
def rhoG (ns : Nat) (ρs : Env) (sp : Nat → Spot) : Env := fun b => if b < ns then ρs b else sp b
theorem good_G (F : Fixed P C G sz ops ns ρs T0 dsts n1 n2 its) : Good ρs ns its m sp (rhoG ns ρs sp) := by
  refine ⟨fun b hb => by simp [rhoG, hb], fun x hx _ b ao hob => ?_⟩
  have := (F.chain.ob x hx b ao hob).1
  have := F.le
  simp only [rhoG]
  rw [if_neg (by omega)]
theorem item_same (F : Fixed P C G sz ops ns ρs T0 dsts n1 n2 its) (I : LInv G sz ops ns ρs T0 its w0 out m T H n ρ sp wr outr a w) {x : Item} (hx : x ∈ its) (hrd : ∀ e ∈ x.o.after, Region.binds .any e = true → m.testBit e.on = true)
    {pre : List Item} {k : Nat} (hc : Chain P C G sz ops ns T0 dsts n1 pre k) (hpre : ∀ y ∈ pre, y ∈ its) (hf : Fit ops sz dsts pre k x) {ρ' : Env} (hg : Good ρs ns its m sp ρ') :
    Same ops x.o (actOf ρ' (putIts T0 pre) sz) a ∧ ActOk ρ' k (putIts T0 pre) sz (actOf ρ' (putIts T0 pre) sz) := by
  have hall : ∀ y ∈ its, y.t ∈ dsts := fun y hy => by obtain ⟨_, _, _, _, f, _⟩ := F.chain.fit y hy; exact f.mem
  have hlts : ∀ y ∈ its, y.t < sz := fun y hy => by obtain ⟨_, _, _, _, f, _⟩ := F.chain.fit y hy; exact f.lt
  have hT0 : ∀ t, (tget T0 t).conc ρ' = (tget T0 t).conc ρs := fun t => conc_ext hg.1 _ (F.wf t)
  have hbig : ∀ t, sz ≤ t → (tget (putIts T0 pre) t).conc ρ' = undef := fun t ht => by
    rw [(hc.get T0).2 t fun y hy e => by have := hlts y (hpre y hy); omega, hT0, F.big t ht]
  have hwf : ∀ t, (tget (putIts T0 pre) t).wf ρ' k := fun t => by
    by_cases h : ∃ y ∈ pre, y.t = t
    · obtain ⟨y, hy, rfl⟩ := h
      rw [(hc.get T0).1 y hy]
      exact hc.wf ρ' (Nat.le_refl _) y hy
    · rw [(hc.get T0).2 t fun y hy e => h ⟨y, hy, e⟩]
      exact wf_ext hg.1 (Nat.le_trans F.le hc.le) _ (F.wf t)
  refine ⟨⟨by simp [actOf, I.size], fun t ht => ?_⟩, actOf_ok hwf hbig⟩
  rw [actOf_get ρ' _ sz t (hbig t)]
  by_cases hd : t ∈ dsts
  · obtain ⟨y, hy, rfl, e, he, hb, hon⟩ := hf.looks t ht hd
    rw [(hc.get T0).1 y hy, I.itv ρ' hg y (hpre y hy) (hon ▸ hrd e he hb)]
  · rw [(hc.get T0).2 t fun y hy e => hd (e ▸ hall y (hpre y hy)), I.val t fun y hy _ e => hd (e ▸ hall y hy), I.keep x hx t ht, hT0]
    exact (conc_ext I.base _ (F.wf t)).symm
theorem item_take (F : Fixed P C G sz ops ns ρs T0 dsts n1 n2 its) (I : LInv G sz ops ns ρs T0 its w0 out m T H n ρ sp wr outr a w) {x : Item} (hx : x ∈ its) (hrd : RdM ops m x.i) (hfl : isFlt x.o = false) :
    ∃ v, (∀ w', (execOp a.eval x.o).run P w' = .ok (.value v) w') ∧ LInv G sz ops ns ρs T0 its w0 out (with1 m x.i) T H n ρ sp wr outr (a.put x.o.dst v) w := by
  obtain ⟨pre, k, hc, hpre, hf, hk, hkind⟩ := F.chain.fit x hx
  have ht : TakeFit P G T0 pre k x := by
    rcases hkind with h | ⟨ao, H', _, h, _⟩
    · exact h
    · rw [hfl] at h; cases h
  obtain ⟨o, ho, hbit, hdep⟩ := hrd
  rw [hf.op] at ho
  cases ho
  have hrun : ∀ ρ', Good ρs ns its m sp ρ' → ∀ w', (execOp a.eval x.o).run P w' = .ok (.value (x.v.conc ρ')) w' := fun ρ' hg w' => by
    obtain ⟨hs, hA⟩ := item_same F I hx hdep hc hpre hf hg
    have M : Mem w (fun c => c < w.heap.size) G ρ' (hv .leaf) k w := memNil w (fun g hgg => by rw [hg.1 g (Nat.lt_of_lt_of_le hgg F.globs), F.glob g hgg]) (Nat.le_trans F.globs (Nat.le_trans F.le hc.le)) I.mem.rebase
    obtain ⟨g1, _⟩ := xPure_ok (fun y => (hA.ev M y).1) (fun y => (hA.ev M y).2) ht.2.2.1
    rw [← same_exec hs (F.nosel x.i x.o · · hf.op)]
    exact g1 w'
  refine ⟨_, hrun _ (good_G F), ?_⟩
  have hsz : x.t < a.tmps.size := by rw [I.size]; exact hf.lt
  have hgm : ∀ ρ', Good ρs ns its (with1 m x.i) sp ρ' → Good ρs ns its m sp ρ' := fun ρ' hg => ⟨hg.1, fun y hy hyb => hg.2 y hy (by rw [with1_bit, hyb]; rfl)⟩
  have hbits : ∀ y ∈ its, (with1 m x.i).testBit y.i = true → m.testBit y.i = true ∨ y = x := fun y hy hyb => by
    rw [with1_bit, Bool.or_eq_true, decide_eq_true_iff] at hyb
    rcases hyb with h | h
    · exact .inl h
    · right
      obtain ⟨_, _, _, _, fy, _⟩ := F.chain.fit y hy
      have ho := fy.op
      rw [← h, hf.op] at ho
      have ho : x.o = y.o := Option.some.inj ho
      have hd := fy.dst
      rw [← ho, hf.dst] at hd
      exact (F.chain.uniq x hx y hy (Option.some.inj hd)).symm
  rw [hf.dst]
  refine ⟨I.mem, I.base, I.le, by rw [size_put]; exact I.size, by rw [defers_put]; exact I.defers, fun t htt => ?_, I.wf, I.big, I.keep, fun ρ' hg y hy hyb => ?_, fun ρ' hg y hy hyb b ao hob => ?_, fun y hy hyb b ao hob => ?_, fun y hy z hz hyb hzb b ao b' ao' h1 h2 => ?_, I.frm, I.env⟩
  · have hne : t ≠ x.t := fun e => htt x hx (by rw [with1_bit]; simp) e.symm
    rw [getD_put a x.t _ hsz, if_neg hne]
    exact I.val t fun y hy hyb => htt y hy (by rw [with1_bit, hyb]; rfl)
  · rw [getD_put a x.t _ hsz]
    by_cases e : y.t = x.t
    · have := F.chain.uniq y hy x hx e
      subst this
      rw [if_pos rfl]
      have h1 := hrun _ (good_G F) w
      rw [hrun ρ' (hgm ρ' hg) w] at h1
      injection h1 with h1
      injection h1 with h1
      exact h1.symm
    · rw [if_neg e]
      rcases hbits y hy hyb with h | h
      · exact I.itv ρ' (hgm ρ' hg) y hy h
      · exact (e (by rw [h])).elim
  · rcases hbits y hy hyb with h | h
    · exact I.ito ρ' (hgm ρ' hg) y hy h b ao hob
    · rw [h, ht.1] at hob; cases hob
  · rcases hbits y hy hyb with h | h
    · exact I.its1 y hy h b ao hob
    · rw [h, ht.1] at hob; cases hob
  · rcases hbits y hy hyb with h | h
    · rcases hbits z hz hzb with h' | h'
      · exact I.itd y hy z hz h h' b ao b' ao' h1 h2
      · rw [h', ht.1] at h2; cases h2
    · rw [h, ht.1] at h1; cases h1
theorem item_flt (F : Fixed P C G sz ops ns ρs T0 dsts n1 n2 its) (I : LInv G sz ops ns ρs T0 its w0 out m T H n ρ sp wr outr a w) {x : Item} (hx : x ∈ its) (hrd : RdM ops m x.i) (hfl : isFlt x.o = true) {ro : Option Nat} {mm : Nat} {QN : Act → World → Prop} {K' : Act → World → Prop}
    (hK : ∀ v w' sp' outr', LInv G sz ops ns ρs T0 its w0 out (with1 m x.i) T H n ρ sp' w' outr' (a.put x.o.dst v) w' → (∀ c, c < w.heap.size → w'.heap[c]? = w.heap[c]?) → K' (a.put x.o.dst v) w') : wpOpIn (FW ro) mm P ops (QOf QN) x.i K' a w := by
  obtain ⟨pre, k, hc, hpre, hf, hk, hkind⟩ := F.chain.fit x hx
  obtain ⟨ao, H', hob, _, he, hao, hown, hbelow⟩ : FltFit P C G ns T0 pre k x := by
    rcases hkind with ⟨_, h, _⟩ | h
    · rw [hfl] at h; cases h
    · exact h
  obtain ⟨o, ho, hbit, hdep⟩ := hrd
  rw [hf.op] at ho
  cases ho
  have hgG : Good ρs ns its m sp (rhoG ns ρs sp) := good_G F
  obtain ⟨hs, hA⟩ := item_same F I hx hdep hc hpre hf hgG
  have M : Mem w (fun c => c < w.heap.size) G (rhoG ns ρs sp) (hv .leaf) k w := memNil w (fun g hgg => by rw [hgG.1 g (Nat.lt_of_lt_of_le hgg F.globs), F.glob g hgg]) (Nat.le_trans F.globs (Nat.le_trans F.le hc.le)) I.mem.rebase
  have hwp : wpOpIn (FW ro) mm P ops (QOf QN) x.i (fun a' w' => a'.defers = (actOf (rhoG ns ρs sp) (putIts T0 pre) sz).defers ∧ ∃ ρ1, Mem w (fun c => c < w.heap.size) G ρ1 (hv H') (k + 1) w' ∧ (∀ b, b < k → ρ1 b = rhoG ns ρs sp b) ∧ a' = (actOf (rhoG ns ρs sp) (putIts T0 pre) sz).put x.o.dst (x.v.conc ρ1)) (actOf (rhoG ns ρs sp) (putIts T0 pre) sz) w := by
    unfold Go.wpOpIn
    simp only [hf.op, Region.wanted, hf.guard, if_true]
    exact xEff_ok F.cal M (fun y => (hA.ev M y).1) (fun y => (hA.ev M y).2) he fun ρ1 w1 M1 hρ1 hwf hn => ⟨by rw [defers_put], ρ1, M1, hρ1, rfl⟩
  refine wpOpIn_like hf.op (F.nosel x.i x.o · · hf.op) (F.nodef x.i x.o · hf.op) hs (fun a' w' h => h.1) (fun v w' ⟨_, ρ1, M1, hρ1, hput⟩ => ?_) hwp
  have hsz : x.t < a.tmps.size := by rw [I.size]; exact hf.lt
  have hvv : v = x.v.conc ρ1 := by
    have := congrArg (fun b : Act => b.tmps.getD x.t undef) hput
    simp only [hf.dst] at this
    rw [getD_put _ x.t _ (by rw [hs.1]; exact hsz), getD_put _ x.t _ (by rw [hs.1]; exact hsz), if_pos rfl, if_pos rfl] at this
    exact this
  subst hvv
  obtain ⟨hobj, _⟩ := M1.obj k ao hao
  have hblk := M1.blk k ao hao
  have hfresh := M1.apart k ao hao
  have hgrow : ∀ c, c < w.heap.size → w'.heap[c]? = w.heap[c]? := fun c hc => (M1.outs c hc).2
  have hle : w.heap.size ≤ w'.heap.size := by
    rcases Nat.lt_or_ge w'.heap.size w.heap.size with h | h
    · have := (M1.outs w'.heap.size h).1; omega
    · exact h
  have hgm : ∀ ρ', Good ρs ns its (with1 m x.i) (upd sp k (ρ1 k)) ρ' → Good ρs ns its m sp ρ' ∧ ρ' k = ρ1 k := fun ρ' hg => by
    refine ⟨⟨hg.1, fun y hy hyb b ao' hob' => ?_⟩, ?_⟩
    · have hne : b ≠ k := fun e => by
        subst e
        have := F.chain.obUniq y hy x hx b ao' ao hob' hob
        rw [this, hbit] at hyb; cases hyb
      have := hg.2 y hy (by rw [with1_bit, hyb]; rfl) b ao' hob'
      rwa [upd_other _ _ hne] at this
    · have := hg.2 x hx (by rw [with1_bit]; simp) k ao hob
      rwa [upd_same] at this
  have hbits : ∀ y ∈ its, (with1 m x.i).testBit y.i = true → m.testBit y.i = true ∨ y = x := fun y hy hyb => by
    rw [with1_bit, Bool.or_eq_true, decide_eq_true_iff] at hyb
    rcases hyb with h | h
    · exact .inl h
    · right
      obtain ⟨_, _, _, _, fy, _⟩ := F.chain.fit y hy
      have ho := fy.op
      rw [← h, hf.op] at ho
      have ho : x.o = y.o := Option.some.inj ho
      have hd := fy.dst
      rw [← ho, hf.dst] at hd
      exact (F.chain.uniq x hx y hy (Option.some.inj hd)).symm
  have hids : ∀ y ∈ its, m.testBit y.i = true → ∀ b ao', y.ob = some (b, ao') → b ≠ k := fun y hy hyb b ao' hob' e => by
    subst e
    have := F.chain.obUniq y hy x hx b ao' ao hob' hob
    rw [this, hbit] at hyb; cases hyb
  refine hK _ w' (upd sp k (ρ1 k)) (fun c => outr c ∨ c = (ρ1 k).blk) ?_ hgrow
  rw [hf.dst]
  have hlt : ∀ b o, hv H b = some o → (ρ b).blk < w.heap.size := I.mem.blk
  refine ⟨⟨fun b o hb => ⟨objOk_ext (I.mem.lt b o hb) (fun _ _ => rfl) (I.mem.obj b o hb).2 (hgrow _ (hlt b o hb)) (I.mem.obj b o hb).1, (I.mem.obj b o hb).2⟩, I.mem.lt, fun b o hb => Nat.lt_of_lt_of_le (hlt b o hb) hle, I.mem.inj, fun c hc => ⟨?_, rfl⟩, fun b o hb hc => ?_, I.mem.glob, I.mem.globs, ⟨⟨rfl, rfl, rfl⟩, ⟨.inl I.mem.env.here.1, let ⟨m, hm⟩ := I.mem.env.here.2; ⟨m, (World.cell?_of_block (a := ⟨0, 0, none⟩) ((hgrow 0 (I.mem.outs 0 I.mem.env.here.1).1).trans (I.mem.outs 0 I.mem.env.here.1).2)).trans hm⟩⟩⟩⟩,
    I.base, I.le, by rw [size_put]; exact I.size, by rw [defers_put]; exact I.defers, fun t htt => ?_, I.wf, I.big, I.keep, fun ρ' hg y hy hyb => ?_, fun ρ' hg y hy hyb b ao' hob' => ?_, fun y hy hyb b ao' hob' => ?_, fun y hy z hz hyb hzb b ao1 b' ao2 h1 h2 e => ?_, fun c hc => ?_, (I.env.trans I.mem.env.same).trans M1.env.same⟩
  · rcases hc with hc | rfl
    · exact Nat.lt_of_lt_of_le (I.mem.outs c hc).1 hle
    · exact hblk
  · rcases hc with hc | hc
    · exact I.mem.apart b o hb hc
    · exact hfresh (by rw [← hc]; exact hlt b o hb)
  · have hne : t ≠ x.t := fun e => htt x hx (by rw [with1_bit]; simp) e.symm
    rw [getD_put a x.t _ hsz, if_neg hne]
    exact I.val t fun y hy hyb => htt y hy (by rw [with1_bit, hyb]; rfl)
  · rw [getD_put a x.t _ hsz]
    by_cases e : y.t = x.t
    · have := F.chain.uniq y hy x hx e
      subst this
      rw [if_pos rfl]
      exact (own_conc hown (hgm ρ' hg).2).symm
    · rw [if_neg e]
      rcases hbits y hy hyb with h | h
      · exact I.itv ρ' (hgm ρ' hg).1 y hy h
      · exact (e (by rw [h])).elim
  · rcases hbits y hy hyb with h | h
    · have ho := I.ito ρ' (hgm ρ' hg).1 y hy h b ao' hob'
      have hsp : ρ' b = sp b := (hgm ρ' hg).1.2 y hy h b ao' hob'
      refine objOk_two (n := ns) rfl (fun _ _ => rfl) (F.chain.ob y hy b ao' hob').2.2.2.1 ?_ ho
      rw [hsp]
      exact hgrow _ (I.mem.outs _ (I.its1 y hy h b ao' hob').1).1
    · subst h
      rw [hob] at hob'
      cases hob'
      refine objOk_two (n := ns) (hgm ρ' hg).2 (fun c hcs => ?_) hbelow rfl hobj
      rw [hg.1 c hcs]
      have h1 : c < k := Nat.lt_of_lt_of_le hcs (Nat.le_trans F.le hc.le)
      have : ρ1 c = rhoG ns ρs sp c := hρ1 c h1
      rw [this]
      simp [rhoG, hcs]
  · rcases hbits y hy hyb with h | h
    · rw [upd_other _ _ (hids y hy h b ao' hob')]
      exact ⟨.inl (I.its1 y hy h b ao' hob').1, (I.its1 y hy h b ao' hob').2⟩
    · subst h
      rw [hob] at hob'
      cases hob'
      rw [upd_same]
      exact ⟨.inr rfl, fun ho => hfresh (I.mem.outs _ (I.frm _ ho).1).1⟩
  · have hx1 : ∀ y ∈ its, m.testBit y.i = true → ∀ b ao', y.ob = some (b, ao') → (sp b).blk ≠ (ρ1 k).blk := fun y hy hyb b ao' hob' e => hfresh (by rw [← e]; exact (I.mem.outs _ (I.its1 y hy hyb b ao' hob').1).1)
    rcases hbits y hy hyb with h | h
    · rw [upd_other _ _ (hids y hy h b ao1 h1)] at e
      rcases hbits z hz hzb with h' | h'
      · rw [upd_other _ _ (hids z hz h' b' ao2 h2)] at e
        exact I.itd y hy z hz h h' b ao1 b' ao2 h1 h2 e
      · subst h'
        rw [hob] at h2
        cases h2
        rw [upd_same] at e
        exact (hx1 y hy h b ao1 h1 e).elim
    · subst h
      rw [hob] at h1
      cases h1
      rw [upd_same] at e
      rcases hbits z hz hzb with h' | h'
      · rw [upd_other _ _ (hids z hz h' b' ao2 h2)] at e
        exact (hx1 z hz h' b' ao2 h2 e.symm).elim
      · subst h'
        rw [hob] at h2
        cases h2
        rfl
  · obtain ⟨h1, h2⟩ := I.frm c hc
    obtain ⟨h3, h4⟩ := I.mem.outs c h1
    exact ⟨.inl h1, by rw [hgrow c h3, h4, h2]⟩
/-- where line and blocks are done -/
theorem lane_end (F : Fixed P C G sz ops ns ρs T0 dsts n1 n2 its) (I : LInv G sz ops ns ρs T0 its w0 out m T H n1 ρ sp wr outr a w) (hall : ∀ x ∈ its, m.testBit x.i = true) :
    ∃ ρ2, ActOk ρ2 n2 (putIts T its) sz a ∧ Mem w0 out G ρ2 (hv (putObs H its)) n2 w ∧ (∀ b, b < ns → ρ2 b = ρs b) ∧ ns ≤ n2 := by
  have hn : n1 ≤ n2 := F.chain.le
  have hl : ∀ b, b < n1 → (fun b => if b < n1 then ρ b else sp b) b = ρ b := fun b hb => by simp [hb]
  have hsp : ∀ x ∈ its, ∀ b ao, x.ob = some (b, ao) → (if b < n1 then ρ b else sp b) = sp b := fun x hx b ao hob => by
    rw [if_neg (by have := (F.chain.ob x hx b ao hob).1; omega)]
  have hg : Good ρs ns its m sp (fun b => if b < n1 then ρ b else sp b) := ⟨fun b hb => by
    rw [← I.base b hb]
    exact hl b (Nat.lt_of_lt_of_le hb F.le), fun x hx _ b ao hob => hsp x hx b ao hob⟩
  have hcase : ∀ b o, hv (putObs H its) b = some o → (∃ x ∈ its, x.ob = some (b, o)) ∨ (hv H b = some o ∧ b < n1) := fun b o hb => by
    by_cases h : ∃ x ∈ its, ∃ ao, x.ob = some (b, ao)
    · obtain ⟨x, hx, ao, hob⟩ := h
      rw [(F.chain.obs H).1 x hx b ao hob] at hb
      cases hb
      exact .inl ⟨x, hx, hob⟩
    · rw [(F.chain.obs H).2 b fun x hx ao e => h ⟨x, hx, ao, e⟩] at hb
      exact .inr ⟨hb, I.mem.lt b o hb⟩
  refine ⟨_, ⟨I.size, fun t => ?_, fun t => ?_, ?_⟩, ⟨fun b o hb => ?_, fun b o hb => ?_, fun b o hb => ?_, fun b b' o o' hb hb' e => ?_, fun c hc => ?_, fun b o hb => ?_, fun g hgg => ?_, ?_, I.env.trans I.mem.env.same⟩, hg.1, Nat.le_trans F.le hn⟩
  · by_cases h : ∃ x ∈ its, x.t = t
    · obtain ⟨x, hx, rfl⟩ := h
      rw [(F.chain.get T).1 x hx]
      exact I.itv _ hg x hx (hall x hx)
    · rw [(F.chain.get T).2 t fun x hx e => h ⟨x, hx, e⟩, I.val t fun x hx _ e => h ⟨x, hx, e⟩]
      exact (conc_ext hl _ (I.wf t)).symm
  · by_cases h : ∃ x ∈ its, x.t = t
    · obtain ⟨x, hx, rfl⟩ := h
      rw [(F.chain.get T).1 x hx]
      exact F.chain.wf _ (Nat.le_refl _) x hx
    · rw [(F.chain.get T).2 t fun x hx e => h ⟨x, hx, e⟩]
      exact wf_ext hl hn _ (I.wf t)
  · rw [(F.chain.get T).2 510 fun x hx e => by obtain ⟨_, _, _, _, f, _⟩ := F.chain.fit x hx; have := f.lt2; omega, I.defers]
    exact (marksOf_ext hl _ (markL_wf (I.wf 510))).symm
  · rcases hcase b o hb with ⟨x, hx, hob⟩ | ⟨hb, hlt⟩
    · exact ⟨I.ito _ hg x hx (hall x hx) b o hob, aoWf_ext (n := ns) (ρ := ρs) hg.1 (Nat.le_trans F.le hn) (aoBelow_wf ρs (F.chain.ob x hx b o hob).2.2.2.1)⟩
    · exact ⟨objOk_ext hlt hl (I.mem.obj b o hb).2 rfl (I.mem.obj b o hb).1, aoWf_ext hl hn (I.mem.obj b o hb).2⟩
  · rcases hcase b o hb with ⟨x, hx, hob⟩ | ⟨hb, hlt⟩
    · exact (F.chain.ob x hx b o hob).2.1
    · omega
  · rcases hcase b o hb with ⟨x, hx, hob⟩ | ⟨hb, hlt⟩
    · simp only [hsp x hx b o hob]; exact (I.mem.outs _ (I.its1 x hx (hall x hx) b o hob).1).1
    · simp only [hl b hlt, if_pos hlt]; exact I.mem.blk b o hb
  · rcases hcase b o hb with ⟨x, hx, hob⟩ | ⟨hb, hlt⟩ <;> rcases hcase b' o' hb' with ⟨x', hx', hob'⟩ | ⟨hb', hlt'⟩
    · simp only [hsp x hx b o hob, hsp x' hx' b' o' hob'] at e
      exact I.itd x hx x' hx' (hall x hx) (hall x' hx') b o b' o' hob hob' e
    · simp only [hsp x hx b o hob, if_pos hlt'] at e
      exact (I.mem.apart b' o' hb' (e ▸ (I.its1 x hx (hall x hx) b o hob).1)).elim
    · simp only [if_pos hlt, hsp x' hx' b' o' hob'] at e
      exact (I.mem.apart b o hb (e ▸ (I.its1 x' hx' (hall x' hx') b' o' hob').1)).elim
    · simp only [if_pos hlt, if_pos hlt'] at e
      exact I.mem.inj b b' o o' hb hb' e
  · obtain ⟨h1, h2⟩ := I.frm c hc
    obtain ⟨h3, h4⟩ := I.mem.outs c h1
    exact ⟨h3, by rw [h4, h2]⟩
  · rcases hcase b o hb with ⟨x, hx, hob⟩ | ⟨hb, hlt⟩
    · simp only [hsp x hx b o hob]; exact (I.its1 x hx (hall x hx) b o hob).2
    · simp only [if_pos hlt]; exact fun ho => I.mem.apart b o hb (I.frm _ ho).1
  · exact (hg.1 g (Nat.lt_of_lt_of_le hgg F.globs)).trans (F.glob g hgg)
  · exact Nat.le_trans I.mem.globs hn
end
end
end Cx
end Go.Proofs.YtboondbognbnnaaGreatDoor

set_option linter.unusedVariables false
set_option linter.unusedSimpArgs false
namespace Go.Proofs.YtboondbognbnnaaGreatDoor
namespace Cx
noncomputable section
section
variable {P : Program} {C : Cal} {G sz : Nat} {ops : Array Oper} {ms : List Nat} {H0 : Hp} {n0 : Nat} {ρ0 : Env} {LA : List Ld} {D : List Nat} {mf : Nat} {its : List Item} {n1 n2 : Nat} {T0 : Tm} {dsts : List Nat} {ns : Nat} {ρs : Env} {w0 : World} {out : Nat → Prop}
variable {m : Nat} {T : Tm} {H : Hp} {n : Nat} {ρ : Env} {sp : Nat → Spot} {wr : World} {outr : Nat → Prop} {a : Act} {w : World}
theorem tput_get {T T' : Tm} {dst : Option Tmp} {v : AV} (h : tput T sz dst v = some T') (t : Nat) : tget T' t = (if dst = some t then v else tget T t) ∧ (∀ d, dst = some d → d < sz ∧ d < 510) := by
  unfold tput at h
  split at h
  · cases h; simp
  · rename_i d
    cases hb : (Nat.blt d sz && Nat.blt d 510) with
    | false => rw [hb] at h; cases h
    | true =>
      rw [hb] at h
      cases h
      simp only [Bool.and_eq_true, Nat.blt_eq] at hb
      refine ⟨?_, fun d' e => by cases e; exact hb⟩
      rw [tget_set _ _ _ hb.2]
      by_cases e : t = d
      · subst e; simp
      · rw [if_neg e, if_neg (fun e' => e (by cases e'; rfl))]
/-- the line takes a step -/
theorem LInv.step (F : Fixed P C G sz ops ns ρs T0 dsts n1 n2 its) (I : LInv G sz ops ns ρs T0 its w0 out m T H n ρ sp wr outr a w) {i : Nat} {o : Oper} (ho : ops[i]? = some o) (hap : ∀ x ∈ its, o.apart ops x.o = true)
    {v : AV} {T' : Tm} (ht : tput T sz o.dst v = some T') {ρ1 : Env} {H' : Hp} {n' : Nat} {w1 : World} (M1 : Mem wr outr G ρ1 (hv H') n' w1) (hρ : ∀ b, b < n → ρ1 b = ρ b) (hn : n ≤ n') (hv' : v.wf ρ1 n') :
    LInv G sz ops ns ρs T0 its w0 out (with1 m i) T' H' n' ρ1 sp wr outr (a.put o.dst (v.conc ρ1)) w1 := by
  have hxi : ∀ x ∈ its, x.i ≠ i := fun x hx e => by
    obtain ⟨_, _, _, _, f, _⟩ := F.chain.fit x hx
    have h1 := f.op
    rw [e, ho] at h1
    have h1 : o = x.o := Option.some.inj h1
    obtain ⟨_, h2, _⟩ := Oper.apart_spec (hap x hx)
    exact h2 x.t (by rw [h1]; exact f.dst) f.dst
  have hbit : ∀ x ∈ its, (with1 m i).testBit x.i = true ↔ m.testBit x.i = true := fun x hx => by
    rw [with1_bit]
    have : ¬ i = x.i := fun e => hxi x hx e.symm
    simp [this]
  have hgood : ∀ ρ', Good ρs ns its (with1 m i) sp ρ' → Good ρs ns its m sp ρ' := fun ρ' hg => ⟨hg.1, fun x hx hb => hg.2 x hx ((hbit x hx).2 hb)⟩
  have hd : ∀ d, o.dst = some d → d < sz ∧ d < 510 := (tput_get ht 0).2
  have hg : ∀ t, tget T' t = if o.dst = some t then v else tget T t := fun t => (tput_get ht t).1
  have hga : ∀ t, (a.put o.dst (v.conc ρ1)).tmps.getD t undef = if o.dst = some t then v.conc ρ1 else a.tmps.getD t undef := fun t => by
    cases hdst : o.dst with
    | none => simp [Act.put]
    | some d =>
      rw [getD_put a d _ (by rw [I.size]; exact (hd d hdst).1)]
      by_cases e : t = d
      · subst e; simp
      · rw [if_neg e, if_neg (fun e' => e (by cases e'; rfl))]
  have hxt : ∀ x ∈ its, o.dst ≠ some x.t := fun x hx e => by
    obtain ⟨_, _, _, _, f, _⟩ := F.chain.fit x hx
    exact (Oper.apart_spec (hap x hx)).2.1 x.t e f.dst
  have hfb : ∀ x ∈ its, m.testBit x.i = true → ∀ b ao, x.ob = some (b, ao) → w1.heap[(sp b).blk]? = w.heap[(sp b).blk]? := fun x hx hb b ao hob => by
    have h1 := (I.its1 x hx hb b ao hob).1
    rw [(M1.outs _ h1).2, (I.mem.outs _ h1).2]
  refine ⟨M1, fun b hb => by rw [hρ b (Nat.lt_of_lt_of_le hb I.le), I.base b hb], Nat.le_trans I.le hn, by rw [size_put]; exact I.size, ?_, fun t htt => ?_, fun t => ?_, fun t htt => ?_, fun x hx t htl => ?_, fun ρ' hg' x hx hb => ?_, fun ρ' hg' x hx hb b ao hob => ?_, fun x hx hb b ao hob => I.its1 x hx ((hbit x hx).1 hb) b ao hob, fun x hx y hy hb hb' => I.itd x hx y hy ((hbit x hx).1 hb) ((hbit y hy).1 hb'), I.frm, I.env⟩
  · rw [defers_put, I.defers, hg 510, if_neg (fun e => absurd (hd 510 e).2 (Nat.lt_irrefl 510))]
    exact (marksOf_ext hρ _ (markL_wf (I.wf 510))).symm
  · rw [hga, hg]
    by_cases e : o.dst = some t
    · rw [if_pos e, if_pos e]
    · rw [if_neg e, if_neg e, I.val t fun x hx hb => htt x hx ((hbit x hx).2 hb), conc_ext hρ _ (I.wf t)]
  · rw [hg]
    by_cases e : o.dst = some t
    · rw [if_pos e]; exact hv'
    · rw [if_neg e]; exact wf_ext hρ hn _ (I.wf t)
  · rw [hg, if_neg (fun e => absurd (hd t e).1 (Nat.not_lt.2 htt)), conc_ext hρ _ (I.wf t)]
    exact I.big t htt
  · rw [hg, if_neg (fun e => (Oper.apart_spec (hap x hx)).1 t e htl)]
    exact I.keep x hx t htl
  · rw [hga, if_neg (hxt x hx)]
    exact I.itv ρ' (hgood ρ' hg') x hx ((hbit x hx).1 hb)
  · have hb' := (hbit x hx).1 hb
    have hsp : ρ' b = sp b := (hgood ρ' hg').2 x hx hb' b ao hob
    refine objOk_two (n := ns) rfl (fun _ _ => rfl) (F.chain.ob x hx b ao hob).2.2.2.1 ?_ (I.ito ρ' (hgood ρ' hg') x hx hb' b ao hob)
    rw [hsp]
    exact hfb x hx hb' b ao hob
theorem LInv.same (F : Fixed P C G sz ops ns ρs T0 dsts n1 n2 its) (I : LInv G sz ops ns ρs T0 its w0 out m T H n ρ sp wr outr a w) {o : Oper} (hap : ∀ x ∈ its, o.apart ops x.o = true) :
    Same ops o (actOf ρ T sz) a ∧ ActOk ρ n T sz (actOf ρ T sz) := by
  refine ⟨⟨by simp [actOf, I.size], fun t ht => ?_⟩, actOf_ok I.wf I.big⟩
  rw [actOf_get ρ T sz t (I.big t), I.val t fun x hx _ e => ?_]
  obtain ⟨_, _, _, _, f, _⟩ := F.chain.fit x hx
  exact (Oper.apart_spec (hap x hx)).2.2 x.t f.dst (e ▸ ht)
theorem lane_ok {ro : Option Nat} {mm : Nat} {QN : Act → World → Prop} {fr1 : Bool} {T1 : Tm} {H1 : Hp} (F : Fixed P C G sz ops ns ρs T0 dsts n1 n2 its) (hms : ms = masks ops.toList []) (hρ0 : ∀ b, b < n0 → ρs b = ρ0 b) (hn0 : n0 ≤ ns) (hLw : ∀ l ∈ LA, LdOk ρ0 n0 l) (hD : ∀ d ∈ D, ∃ x ∈ its, x.i = d)
    (hend : ∀ {fuel : Nat} {listed : Array Bool} {ρ : Env} {sp : Nat → Spot} {wr : World} {outr : Nat → Prop} {a : Act} {w : World}, Rep ops listed mf → cnt ops mf ≤ fuel → Closed ops listed → LInv G sz ops ns ρs T0 its w0 out mf T1 H1 n1 ρ sp wr outr a w → wpAnyK ro mm P ops (QOf QN) (SL ρ0 LA) ms fuel listed a w) :
    ∀ {m : Nat} {A : List (Nat × Bool)}, LaneOk ops D mf m A → ∀ {fuel : Nat} {listed : Array Bool} {fr : Bool} {T : Tm} {H : Hp} {n : Nat} {ρ : Env} {sp : Nat → Spot} {wr : World} {outr : Nat → Prop} {a : Act} {w : World},
      Run P C G sz ops ms H0 n0 LA fr1 T1 H1 n1 A fr T H n → (∀ y ∈ A, ∀ x ∈ its, ∀ oi, ops[y.1]? = some oi → oi.apart ops x.o = true) → Rep ops listed m → cnt ops m ≤ fuel → Closed ops listed → LInv G sz ops ns ρs T0 its w0 out m T H n ρ sp wr outr a w →
      wpAnyK ro mm P ops (QOf QN) (SL ρ0 LA) ms fuel listed a w := by
  have hQp : ∀ (o : Oper) (v : Value) c a w, QOf QN (.panic c) (a.put o.dst v) w → QOf QN (.panic c) a w := fun _ _ _ _ _ h => h.elim
  have tt : ∀ i j w w', (∀ k, inc ms j k = true → SL ρ0 LA k w → SL ρ0 LA k w') → inc ms j i = true → True → True := fun _ _ _ _ _ _ _ => trivial
  have free : ∀ {m i : Nat} {o : Oper} {listed : Array Bool}, Rep ops listed m → ops[i]? = some o → FreeM ops m i → ∀ j oj, ops[j]? = some oj → j ≠ i → listed.getD j true = false → (∀ e ∈ oj.after, Region.binds .any e = true → e.on ≠ i) → o.apart ops oj = true :=
    fun hR ho hf j oj hj hne hl hno => hf _ ho j oj hj hne (rep_false hR (Array.getElem?_eq_some_iff.1 hj).1 hl) hno
  have fuel1 : ∀ {m j fuel : Nat}, RdM ops m j → cnt ops m ≤ fuel → ∃ f, fuel = f + 1 ∧ cnt ops (with1 m j) ≤ f := fun {m j fuel} h hf => by
    have := cnt_lt h
    exact ⟨fuel - 1, by omega, by omega⟩
  have lt : ∀ {m j : Nat}, RdM ops m j → j < ops.size := fun h => by obtain ⟨o, ho, _⟩ := h; exact (Array.getElem?_eq_some_iff.1 ho).1
  have flt : ∀ {m j : Nat} {T : Tm} {H : Hp} {n : Nat} {ρ : Env} {sp : Nat → Spot} {wr : World} {outr : Nat → Prop} {a : Act} {w : World} {f : Nat} {listed : Array Bool}, LInv G sz ops ns ρs T0 its w0 out m T H n ρ sp wr outr a w → RdM ops m j → j ∈ D → (∃ o, ops[j]? = some o ∧ isFlt o = true) →
      (∀ (sp' : Nat → Spot) (wr' : World) (outr' : Nat → Prop) (a' : Act) (w' : World), LInv G sz ops ns ρs T0 its w0 out (with1 m j) T H n ρ sp' wr' outr' a' w' → wpAnyK ro mm P ops (QOf QN) (SL ρ0 LA) ms f (listed.setIfInBounds j true) a' w') →
      wpOpIn (FW ro) mm P ops (QOf QN) j (fun a' w' => (∀ k, inc ms j k = true → SL ρ0 LA k w → SL ρ0 LA k w') ∧ wpAnyK ro mm P ops (QOf QN) (SL ρ0 LA) ms f (listed.setIfInBounds j true) a' w') a w := by
    intro m j T H n ρ sp wr outr a w f listed I hr hj ⟨o, ho, hf⟩ hk
    obtain ⟨x, hx, rfl⟩ := hD j hj
    obtain ⟨_, _, _, _, fx, _⟩ := F.chain.fit x hx
    rw [fx.op] at ho
    cases ho
    exact item_flt F I hx hr hf fun v w' sp' outr' I' hgrow => ⟨fun k _ hs l hl hlk => cellsAt_grow hgrow (hs l hl hlk), hk sp' w' outr' _ w' I'⟩
  intro m A hL
  induction hL with
  | done =>
    intro fuel listed fr T H n ρ sp wr outr a w hrun _ hR hf hcl I
    cases hrun
    exact hend hR hf hcl I
  | @dtake m d A hd hnf hr hfree _ ih =>
    intro fuel listed fr T H n ρ sp wr outr a w hrun hap hR hf hcl I
    obtain ⟨x, hx, rfl⟩ := hD d hd
    obtain ⟨_, _, _, _, fx, _⟩ := F.chain.fit x hx
    have hflx : isFlt x.o = false := by
      obtain ⟨o, ho, h⟩ := hnf
      rw [fx.op] at ho
      cases ho
      simpa [noGuard, fx.guard] using h
    obtain ⟨v, hv', I'⟩ := item_take F I hx hr hflx
    obtain ⟨f, rfl, hf'⟩ := fuel1 hr hf
    exact wpAnyK_first (S' := fun _ => True) (v := v) hms fx.op F.nosel F.nodef (hQp x.o _) (tt x.i) f listed a w hcl (free hR fx.op hfree) ((rep_ready hR).2 hr) (.inl ⟨by simp [Region.wanted, fx.guard], fun w' _ => hv' w'⟩) trivial
      (ih hrun hap (rep_set hR (lt hr)) hf' (closed_set hcl ((rep_ready hR).2 hr)) I')
  | @take m i A hr hfree _ ih =>
    intro fuel listed fr T H n ρ sp wr outr a w hrun hap hR hf hcl I
    obtain ⟨f, rfl, hf'⟩ := fuel1 hr hf
    have hap' : ∀ y ∈ A, ∀ x ∈ its, ∀ oi, ops[y.1]? = some oi → oi.apart ops x.o = true := fun y hy => hap y (List.mem_cons_of_mem _ hy)
    have hcl' := closed_set hcl ((rep_ready hR).2 hr)
    cases hrun with
    | @skip _ _ _ o _ _ T' _ _ ho hw ht hrest =>
      have hapo : ∀ x ∈ its, o.apart ops x.o = true := fun x hx => hap (i, true) (by simp) x hx o ho
      obtain ⟨hsame, hA⟩ := I.same F hapo
      have hwant := xWanted_ok hA ops o
      rw [same_wanted hsame, hw] at hwant
      have I' := I.step F ho hapo ht I.mem (fun _ _ => rfl) (Nat.le_refl _) (by simp only [AV.wf])
      exact wpAnyK_first (S' := fun _ => True) (v := undef) hms ho F.nosel F.nodef (hQp o _) (tt i) f listed a w hcl (free hR ho hfree) ((rep_ready hR).2 hr) (.inr ⟨hwant, rfl⟩) trivial
        (ih hrest hap' (rep_set hR (lt hr)) hf' hcl' I')
    | @pure _ _ o _ _ T' _ _ v ho hw hx ht hrest =>
      have hapo : ∀ x ∈ its, o.apart ops x.o = true := fun x hx => hap (i, true) (by simp) x hx o ho
      obtain ⟨hsame, hA⟩ := I.same F hapo
      have hwant := xWanted_ok hA ops o
      rw [same_wanted hsame, hw] at hwant
      obtain ⟨g1, g2⟩ := xPure_ok (fun y => (hA.ev I.mem y).1) (fun y => (hA.ev I.mem y).2) hx
      have I' := I.step F ho hapo ht I.mem (fun _ _ => rfl) (Nat.le_refl _) g2
      exact wpAnyK_first (S' := fun _ => True) (v := v.conc ρ) hms ho F.nosel F.nodef (hQp o _) (tt i) f listed a w hcl (free hR ho hfree) ((rep_ready hR).2 hr) (.inl ⟨hwant, fun w' _ => by rw [← same_exec hsame (F.nosel i o · · ho)]; exact g1 w'⟩) trivial
        (ih hrest hap' (rep_set hR (lt hr)) hf' hcl' I')
    | @load _ _ o _ _ T' _ _ b o' t x v ho hw hop hx hv' ht hb1 hb2 hmem huniq hrest =>
      have hapo : ∀ x ∈ its, o.apart ops x.o = true := fun x hx => hap (i, true) (by simp) x hx o ho
      obtain ⟨hsame, hA⟩ := I.same F hapo
      have hwant := xWanted_ok hA ops o
      rw [same_wanted hsame, hw] at hwant
      obtain ⟨b', o2, hx', g1, g2⟩ := xLoad_ok (w0 := wr) (out := outr) (G := G) (ρ := ρ) (n := n) hv'
      rw [hx] at hx'
      cases hx'
      obtain ⟨g3, g4⟩ := g2 w I.mem
      have I' := I.step F ho hapo ht I.mem (fun _ _ => rfl) (Nat.le_refl _) g4
      have hρb : ∀ b, b < n0 → ρ b = ρ0 b := fun b hb => by rw [I.base b (Nat.lt_of_lt_of_le hb hn0), hρ0 b hb]
      have hcx : ∀ w', CellsAt ρ0 w' b o' v.cells ↔ CellsAt ρ w' b o' v.cells := fun w' => cellsAt_ext hρb hb1 (hLw _ hmem).2
      have hxe := (hA.ev I.mem x).1
      refine wpAnyK_first (S' := fun w' => CellsAt ρ w' b o' v.cells) (v := v.conc ρ) hms ho F.nosel F.nodef (hQp o _) (fun j w1 w2 hk hin hs => ?_) f listed a w hcl (free hR ho hfree) ((rep_ready hR).2 hr) (.inl ⟨hwant, fun w' hs => ?_⟩) g3
        (ih hrest hap' (rep_set hR (lt hr)) hf' hcl' I')
      · have := hk i hin (fun l hl hli => by rw [huniq l hl hli]; exact (hcx w1).2 hs)
        exact (hcx w2).1 (this _ hmem rfl)
      · rw [← same_exec hsame (F.nosel i o · · ho)]
        simp only [execOp, hop, Sem.run_bind, hxe, g1 w' hs, Result.andThen_ok, rp]
  | @eff m i A hr _ hothers _ ih ihs =>
    intro fuel listed fr T H n ρ sp wr outr a w hrun hap hR hf hcl I
    obtain ⟨f, rfl, hf'⟩ := fuel1 hr hf
    have hap' : ∀ y ∈ A, ∀ x ∈ its, ∀ oi, ops[y.1]? = some oi → oi.apart ops x.o = true := fun y hy => hap y (List.mem_cons_of_mem _ hy)
    have hir := (rep_ready hR).2 hr
    refine ⟨fun h0 => (by rw [h0] at hir; cases hir), fun j hj => ?_⟩
    have hrj := (rep_ready hR).1 hj
    by_cases hji : j = i
    · subst hji
      cases hrun with
      | @skip _ _ _ o _ _ T' _ _ ho hw ht hrest =>
        have hapo : ∀ x ∈ its, o.apart ops x.o = true := fun x hx => hap (j, false) (by simp) x hx o ho
        obtain ⟨hsame, hA⟩ := I.same F hapo
        have hwant := xWanted_ok hA ops o
        rw [same_wanted hsame, hw] at hwant
        have I' := I.step F ho hapo ht I.mem (fun _ _ => rfl) (Nat.le_refl _) (by simp only [AV.wf])
        unfold wpOpIn
        simp only [ho, hwant, Bool.false_eq_true, if_false]
        exact ⟨fun _ _ => trivial, fun _ _ hs => hs, ih hrest hap' (rep_set hR (lt hr)) hf' (closed_set hcl hj) I'⟩
      | @eff _ _ o _ _ T' _ H' _ n' v ho hw he ht hkeep hrest =>
        have hapo : ∀ x ∈ its, o.apart ops x.o = true := fun x hx => hap (j, false) (by simp) x hx o ho
        obtain ⟨hsame, hA⟩ := I.same F hapo
        have hwant := xWanted_ok hA ops o
        rw [hw] at hwant
        have hwp : wpOpIn (FW ro) mm P ops (QOf QN) j (fun a' w' => a'.defers = (actOf ρ T sz).defers ∧ ∃ ρ1, Mem wr outr G ρ1 (hv H') n' w' ∧ (∀ b, b < n → ρ1 b = ρ b) ∧ v.wf ρ1 n' ∧ n ≤ n' ∧ a' = (actOf ρ T sz).put o.dst (v.conc ρ1)) (actOf ρ T sz) w := by
          unfold Go.wpOpIn
          simp only [ho, hwant, if_true]
          exact xEff_ok F.cal I.mem (fun y => (hA.ev I.mem y).1) (fun y => (hA.ev I.mem y).2) he fun ρ1 w1 M1 hρ1 hwf hn => ⟨by rw [defers_put], ρ1, M1, hρ1, hwf, hn, rfl⟩
        refine wpOpIn_like ho (F.nosel j o · · ho) (F.nodef j o · ho) hsame (fun a' w' h => h.1) (fun u w' ⟨_, ρ1, M1, hρ1, hwf, hn, hput⟩ => ?_) hwp
        have I' := I.step F ho hapo ht M1 hρ1 hn hwf
        have hput' : a.put o.dst u = a.put o.dst (v.conc ρ1) := by
          cases hd : o.dst with
          | none => rfl
          | some d =>
            have hdl := (tput_get ht 0).2 d hd
            have := congrArg (fun b : Act => b.tmps.getD d undef) hput
            simp only [hd] at this
            rw [getD_put _ d _ (by rw [hsame.1, I.size]; exact hdl.1), getD_put _ d _ (by rw [hsame.1, I.size]; exact hdl.1), if_pos rfl, if_pos rfl] at this
            rw [this]
        rw [hput']
        refine ⟨fun k hik _ l hl hlk => ?_, ih hrest hap' (rep_set hR (lt hr)) hf' (closed_set hcl hj) I'⟩
        have hcs := hkeep l hl (hlk ▸ hik)
        obtain ⟨q1, q2⟩ := hLw l hl
        exact (cellsAt_ext (fun b hb => by rw [hρ1 b (Nat.lt_of_lt_of_le hb (Nat.le_trans hn0 I.le)), I.base b (Nat.lt_of_lt_of_le hb hn0), hρ0 b hb]) q1 q2).2 (cellsSame_ok hcs M1).1
    · obtain ⟨hjD, hfo⟩ := hothers j hrj hji
      have hf2 : cnt ops (with1 m j) ≤ f := by have := cnt_lt hrj; omega
      exact flt I hrj hjD hfo fun sp' wr' outr' a' w' I' => ihs j hrj hji hrun hap (rep_set hR (lt hrj)) hf2 (closed_set hcl hj) I'
  | @flts m hex hall _ ihs =>
    intro fuel listed fr T H n ρ sp wr outr a w hrun hap hR hf hcl I
    obtain ⟨j0, hj0⟩ := hex
    obtain ⟨f, rfl, _⟩ := fuel1 hj0 hf
    have hjr := (rep_ready hR).2 hj0
    refine ⟨fun h0 => (by rw [h0] at hjr; cases hjr), fun j hj => ?_⟩
    have hrj := (rep_ready hR).1 hj
    obtain ⟨hjD, hfo⟩ := hall j hrj
    have hf2 : cnt ops (with1 m j) ≤ f := by have := cnt_lt hrj; omega
    exact flt I hrj hjD hfo fun sp' wr' outr' a' w' I' => ihs j hrj hrun hap (rep_set hR (lt hrj)) hf2 (closed_set hcl hj) I'
end
/-! ### the whole -/
/-- the blocks made beside the line get their names -/
def xClose (P : Program) (C : Cal) (G sz : Nat) (ops : Array Oper) (ns : Nat) (T0 : Tm) (D : List Nat) (k : Kont) : Kont := fun fr Lp T H n =>
  bif Nat.ble ns n then (match D with
  | [] => k fr Lp T H n
  | d :: ds => match xItems P C G sz ops ns T0 (dstsOf ops (d :: ds)) (d :: ds) [] n with
    | some (its, n2) => k false Lp (putIts T its) (putObs H its) n2
    | none => none) else none
def xPlan (P : Program) (C : Cal) (G sz : Nat) (ops : Array Oper) (ms : List Nat) (H0 : Hp) (n0 : Nat) : List Lane → Kont
  | [], _, _, T, H, n => some (T, H, n, [])
  | (A, D) :: p, fr, Lp, T, H, n => xOps P C G sz ops ms H0 n0 (xClose P C G sz ops n T D (xPlan P C G sz ops ms H0 n0 p)) A fr Lp T H n
section
variable {P : Program} {C : Cal} {G sz : Nat} {ops : Array Oper} {ms : List Nat} {H0 : Hp} {n0 : Nat} {ρ0 : Env} {w0 : World} {out : Nat → Prop} {w00 : World}
theorem xClose_run {ns : Nat} {T0 : Tm} {D : List Nat} {k : Kont} {fr : Bool} {Lp : List Ld} {T : Tm} {H : Hp} {n : Nat} {r : Res} (h : xClose P C G sz ops ns T0 D k fr Lp T H n = some r) :
    ∃ its n2 fr2, Chain P C G sz ops ns T0 (dstsOf ops D) n its n2 ∧ its.map (·.i) = D ∧ k fr2 Lp (putIts T its) (putObs H its) n2 = some r ∧ (fr2 = true → fr = true ∧ putObs H its = H) ∧ ns ≤ n := by
  unfold xClose at h
  cases hb : Nat.ble ns n with
  | false => rw [hb] at h; cases h
  | true =>
  rw [hb] at h
  simp only [cond_true] at h
  rw [Nat.ble_eq] at hb
  split at h
  · exact ⟨[], n, fr, .nil, rfl, h, fun e => ⟨e, rfl⟩, hb⟩
  · split at h
    · rename_i its n2 hx
      obtain ⟨g1, g2⟩ := xItems_ok hx (.nil)
      exact ⟨its, n2, false, g1, by simpa using g2, h, fun e => (by cases e), hb⟩
    · cases h
theorem xPlan_wf (M0 : Mem w0 out G ρ0 (hv H0) n0 w00) : ∀ {p : List Lane} {fr : Bool} {Lp : List Ld} {T : Tm} {H : Hp} {n : Nat} {T2 : Tm} {H2 : Hp} {n2 : Nat} {L : List Ld}, xPlan P C G sz ops ms H0 n0 p fr Lp T H n = some (T2, H2, n2, L) → (fr = true → H = H0) → ∀ l ∈ L, LdOk ρ0 n0 l
  | [], fr, Lp, T, H, n, T2, H2, n2, L, h, hfr => by
    simp only [xPlan, Option.some.injEq, Prod.mk.injEq] at h
    obtain ⟨_, _, _, rfl⟩ := h
    intro l hl; cases hl
  | (A, D) :: p, fr, Lp, T, H, n, T2, H2, n2, L, h, hfr => by
    simp only [xPlan] at h
    obtain ⟨fr1, Lp1, T1, H1, n1, L1, g1, g2, g3, g4, g5⟩ := xOps_run M0 h hfr
    obtain ⟨its, n3, fr2, h1, h2, h3, h4, _⟩ := xClose_run g1
    have ih := xPlan_wf M0 h3 fun e => by rw [(h4 e).2]; exact g2 (h4 e).1
    intro l hl
    rcases g4 l hl with h | h
    · exact ih l h
    · exact h
theorem xPlan_ok {ro : Option Nat} {mm : Nat} {QN : Act → World → Prop} (hc : CalOk P G C) (hms : ms = masks ops.toList []) (hsel : Region.noSelect ops = true) (hnd : noDefer ops = true) (M0 : Mem w0 out G ρ0 (hv H0) n0 w00) {LA : List Ld} (hLw : ∀ l ∈ LA, LdOk ρ0 n0 l) :
    ∀ {p : List Lane} {m fuel : Nat} {listed : Array Bool} {fr : Bool} {Lp : List Ld} {T : Tm} {H : Hp} {n : Nat} {ρ : Env} {a : Act} {w : World} {T2 : Tm} {H2 : Hp} {n2 : Nat} {L : List Ld},
      PlanOk ops m p → Rep ops listed m → cnt ops m ≤ fuel → Closed ops listed → xPlan P C G sz ops ms H0 n0 p fr Lp T H n = some (T2, H2, n2, L) → ActOk ρ n T sz a → Mem w0 out G ρ (hv H) n w →
      (∀ b, b < n0 → ρ b = ρ0 b) → n0 ≤ n → (fr = true → H = H0) → (∀ l, l ∈ LA ↔ l ∈ Lp ∨ l ∈ L) → (∀ a' w', At w0 out G ρ n sz T2 H2 n2 a' w' → QN a' w') →
      wpAnyK ro mm P ops (QOf QN) (SL ρ0 LA) ms fuel listed a w
  | [], m, fuel, listed, fr, Lp, T, H, n, ρ, a, w, T2, H2, n2, L, hp, hR, hf, hcl, h, A, M, hρ, hn, hfr, hall, hQ => by
    simp only [xPlan, Option.some.injEq, Prod.mk.injEq] at h
    obtain ⟨rfl, rfl, rfl, _⟩ := h
    cases hp with
    | nil hr =>
      have he : Region.ready .any ops listed = [] := by
        cases hl : Region.ready .any ops listed with
        | nil => rfl
        | cons j l => exact (hr j ((rep_ready hR).1 (by rw [hl]; simp))).elim
      exact wpAnyK_done he (hQ a w ⟨ρ, A, M, fun _ _ => rfl, Nat.le_refl _⟩) fuel
  | (A0, D) :: p, m, fuel, listed, fr, Lp, T, H, n, ρ, a, w, T2, H2, n2, L, hp, hR, hf, hcl, h, A, M, hρ, hn, hfr, hall, hQ => by
    simp only [xPlan] at h
    cases hp with
    | @cons _ mf _ _ _ hL hap hbits hp' =>
      obtain ⟨fr1, Lp1, T1, H1, n1, L1, g1, g2, g3, g4, g5⟩ := xOps_run M0 h hfr
      obtain ⟨its, n3, fr2, h1, h2, h3, h4, hle⟩ := xClose_run g1
      have hrun := g5 LA hall
      have hD : ∀ d ∈ D, ∃ x ∈ its, x.i = d := fun d hd => by rw [← h2] at hd; obtain ⟨x, hx, e⟩ := List.mem_map.1 hd; exact ⟨x, hx, e⟩
      have hxD : ∀ x ∈ its, x.i ∈ D := fun x hx => by rw [← h2]; exact List.mem_map.2 ⟨x, hx, rfl⟩
      have F : Fixed P C G sz ops n ρ T (dstsOf ops D) n1 n3 its := ⟨hc, h1, A.wf, fun t ht => by
          rw [← A.val t]
          simp only [Array.getD_eq_getD_getElem?]
          rw [Array.getElem?_eq_none (by rw [A.size]; exact ht)]
          rfl, M.glob, M.globs, hle, Region.noSelect_spec hsel, noDefer_spec hnd⟩
      have nob : ∀ x ∈ its, m.testBit x.i = true → False := fun x hx hb => by rw [(hbits x.i (hxD x hx)).1] at hb; cases hb
      have I : LInv G sz ops n ρ T its w0 out m T H n ρ ρ w0 out a w :=
        ⟨M, fun _ _ => rfl, Nat.le_refl _, A.size, A.defers, fun t _ => A.val t, A.wf, F.big, fun _ _ _ _ => rfl, fun _ _ x hx hb => (nob x hx hb).elim, fun _ _ x hx hb => (nob x hx hb).elim, fun x hx hb => (nob x hx hb).elim, fun x hx y hy hb => (nob x hx hb).elim, fun c hc => ⟨hc, rfl⟩, ⟨⟨rfl, rfl, rfl⟩, M.env.here⟩⟩
      refine lane_ok F hms hρ hn hLw hD (fun {fuel' listed' ρ' sp' wr' outr' a' w'} hR' hf' hcl' I' => ?_) hL hrun (fun y hy x hx oi hoi => ?_) hR hf hcl I
      · obtain ⟨ρ2, A2, M2, hρ2, hn2⟩ := lane_end F I' fun x hx => (hbits x.i (hxD x hx)).2
        exact xPlan_ok hc hms hsel hnd M0 hLw hp' hR' hf' hcl' h3 A2 M2 (fun b hb => by rw [hρ2 b (Nat.lt_of_lt_of_le hb hn), hρ b hb]) (Nat.le_trans hn hn2) (fun e => by rw [(h4 e).2]; exact g2 (h4 e).1) (fun l => (hall l).trans (g3 l)) fun a3 w3 hat => hQ a3 w3 (hat.back hρ2 hn2)
      · obtain ⟨_, _, _, _, fx, _⟩ := h1.fit x hx
        exact laneApart_ok hap hy (hxD x hx) hoi fx.op
end
end
end Cx
end Go.Proofs.YtboondbognbnnaaGreatDoor
