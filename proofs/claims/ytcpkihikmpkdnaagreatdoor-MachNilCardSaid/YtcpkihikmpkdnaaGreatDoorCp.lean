/- A verified executor of closed calls, part 14: blocks that are made beside a line: what they are. -/
import Derived.Test.YtcpkihikmpkdnaaGreatDoorCn
set_option linter.unusedVariables false
set_option linter.unusedSimpArgs false
namespace Go.Proofs.YtcpkihikmpkdnaaGreatDoor
namespace Cx
noncomputable section
structure Item where
  i : Nat
  o : Oper
  t : Nat
  v : AV
  ob : Option (Nat × AO)
def putIts (T : Tm) (its : List Item) : Tm := its.foldl (fun T x => Tr.set 9 T x.t (some x.v)) T
def putObs (H : Hp) (its : List Item) : Hp := its.foldl (fun H x => match x.ob with | some (b, ao) => Tr.set 20 H b (some ao) | none => H) H
def hasIt (need t : Nat) : List Item → Bool
  | [] => false
  | y :: l => (y.t.beq t && bit need y.i) || hasIt need t l
def newT (t : Nat) : List Item → Bool
  | [] => true
  | y :: l => !y.t.beq t && newT t l
def looksChk (need : Nat) (acc : List Item) (dsts : List Nat) : List Nat → Bool
  | [] => true
  | t :: l => (!inL t dsts || hasIt need t acc) && looksChk need acc dsts l
def dstsOf (ops : Array Oper) : List Nat → List Nat
  | [] => []
  | d :: ds => match (ops[d]?).bind (·.dst) with
    | some t => t :: dstsOf ops ds
    | none => dstsOf ops ds
def xItems (P : Program) (C : Cal) (G sz : Nat) (ops : Array Oper) (n0 : Nat) (T0 : Tm) (dsts : List Nat) : List Nat → List Item → Nat → Option (List Item × Nat)
  | [], acc, n => some (acc, n)
  | d :: ds, acc, n => match ops[d]? with
    | none => none
    | some o => match o.guard, o.dst with
      | none, some t => bif looksChk (needL o.after.toList) acc dsts (o.looksAt ops) && newT t acc && inL t dsts && Nat.blt t sz && Nat.blt t 510 && Nat.blt (n + 1) 1048576 then (match isFlt o with
          | true => match yEff P C (evA G (putIts T0 acc)) .leaf n o with
            | some (v, H', n') => match hv H' n with
              | some ao => bif n'.beq (n + 1) && own n v && aoBelow n0 ao then xItems P C G sz ops n0 T0 dsts ds (acc ++ [⟨d, o, t, v, some (n, ao)⟩]) (n + 1) else none
              | none => none
            | none => none
          | false => match yPure P (evA G (putIts T0 acc)) o with
            | some v => bif solid n v then xItems P C G sz ops n0 T0 dsts ds (acc ++ [⟨d, o, t, v, none⟩]) n else none
            | none => none) else none
      | _, _ => none
theorem hasIt_ok {need t : Nat} : ∀ {l : List Item}, hasIt need t l = true → ∃ y ∈ l, y.t = t ∧ need.testBit y.i = true
  | [], h => by simp [hasIt] at h
  | y :: l, h => by
    simp only [hasIt, Bool.or_eq_true, Bool.and_eq_true, bit_eq] at h
    rcases h with h | h
    · exact ⟨y, by simp, Nat.eq_of_beq_eq_true h.1, h.2⟩
    · obtain ⟨z, hz, hh⟩ := hasIt_ok h; exact ⟨z, by simp [hz], hh⟩
theorem newT_ok {t : Nat} : ∀ {l : List Item}, newT t l = true → ∀ y ∈ l, y.t ≠ t
  | [], _, y, hy => by cases hy
  | z :: l, h, y, hy => by
    simp only [newT, Bool.and_eq_true, Bool.not_eq_true'] at h
    rcases List.mem_cons.1 hy with rfl | hy
    · intro e; rw [e, Nat.beq_refl] at h; cases h.1
    · exact newT_ok h.2 y hy
theorem looksChk_ok {need : Nat} {acc : List Item} {dsts : List Nat} : ∀ {l : List Nat}, looksChk need acc dsts l = true → ∀ t ∈ l, t ∈ dsts → ∃ y ∈ acc, y.t = t ∧ need.testBit y.i = true
  | [], _, t, ht, _ => by cases ht
  | s :: l, h, t, ht, hd => by
    simp only [looksChk, Bool.and_eq_true, Bool.or_eq_true, Bool.not_eq_true'] at h
    rcases List.mem_cons.1 ht with rfl | ht
    · rcases h.1 with h1 | h1
      · rw [inL_iff.2 hd] at h1; cases h1
      · exact hasIt_ok h1
    · exact looksChk_ok h.2 t ht hd
/-- one of them, behind those of 'acc' -/
structure Fit (ops : Array Oper) (sz : Nat) (dsts : List Nat) (acc : List Item) (n : Nat) (x : Item) : Prop where
  op : ops[x.i]? = some x.o
  guard : x.o.guard = none
  dst : x.o.dst = some x.t
  lt : x.t < sz
  lt2 : x.t < 510
  big : n + 1 < 1048576
  fresh : ∀ y ∈ acc, y.t ≠ x.t
  mem : x.t ∈ dsts
  looks : ∀ t ∈ x.o.looksAt ops, t ∈ dsts → ∃ y ∈ acc, y.t = t ∧ ∃ e ∈ x.o.after, Region.binds .any e = true ∧ e.on = y.i
def TakeFit (P : Program) (G : Nat) (T0 : Tm) (acc : List Item) (n : Nat) (x : Item) : Prop := x.ob = none ∧ isFlt x.o = false ∧ xPure P (evA G (putIts T0 acc)) x.o = some x.v ∧ solid n x.v = true
def FltFit (P : Program) (C : Cal) (G n0 : Nat) (T0 : Tm) (acc : List Item) (n : Nat) (x : Item) : Prop := ∃ ao H', x.ob = some (n, ao) ∧ isFlt x.o = true ∧ xEff P C (evA G (putIts T0 acc)) .leaf n x.o = some (x.v, H', n + 1) ∧ hv H' n = some ao ∧ own n x.v = true ∧ aoBelow n0 ao = true
inductive Chain (P : Program) (C : Cal) (G sz : Nat) (ops : Array Oper) (n0 : Nat) (T0 : Tm) (dsts : List Nat) (n1 : Nat) : List Item → Nat → Prop where
  | nil : Chain P C G sz ops n0 T0 dsts n1 [] n1
  | take {acc : List Item} {n : Nat} {x : Item} : Chain P C G sz ops n0 T0 dsts n1 acc n → Fit ops sz dsts acc n x → TakeFit P G T0 acc n x → Chain P C G sz ops n0 T0 dsts n1 (acc ++ [x]) n
  | flt {acc : List Item} {n : Nat} {x : Item} : Chain P C G sz ops n0 T0 dsts n1 acc n → Fit ops sz dsts acc n x → FltFit P C G n0 T0 acc n x → Chain P C G sz ops n0 T0 dsts n1 (acc ++ [x]) (n + 1)
section
variable {P : Program} {C : Cal} {G sz : Nat} {ops : Array Oper} {n0 : Nat} {T0 : Tm} {dsts : List Nat} {n1 : Nat}
theorem xItems_ok : ∀ {ds : List Nat} {acc : List Item} {n : Nat} {its : List Item} {n2 : Nat}, xItems P C G sz ops n0 T0 dsts ds acc n = some (its, n2) → Chain P C G sz ops n0 T0 dsts n1 acc n → Chain P C G sz ops n0 T0 dsts n1 its n2 ∧ its.map (·.i) = acc.map (·.i) ++ ds
  | [], acc, n, its, n2, h, hc => by
    simp only [xItems, Option.some.injEq, Prod.mk.injEq] at h
    obtain ⟨rfl, rfl⟩ := h
    exact ⟨hc, by simp⟩
  | d :: ds, acc, n, its, n2, h, hc => by
    simp only [xItems, yPure_eq, yEff_eq] at h
    split at h
    · cases h
    · rename_i o ho
      split at h
      · rename_i t hg hd
        generalize hcd : (looksChk _ _ _ _ && newT _ _ && inL _ _ && Nat.blt t sz && Nat.blt t 510 && Nat.blt (n + 1) 1048576) = c at h
        cases c with
        | false => cases h
        | true =>
          simp only [cond_true] at h
          simp only [Bool.and_eq_true, Nat.blt_eq] at hcd
          obtain ⟨⟨⟨⟨⟨c1, c2⟩, c3⟩, c4⟩, c5⟩, c6⟩ := hcd
          have fit : ∀ v ob, Fit ops sz dsts acc n ⟨d, o, t, v, ob⟩ := fun v ob =>
            ⟨ho, hg, hd, c4, c5, c6, newT_ok c2, inL_iff.1 c3, fun t ht hd' => by
              obtain ⟨y, hy, he, hb⟩ := looksChk_ok c1 t ht hd'
              obtain ⟨e, he', hb', hon⟩ := (needL_bit _ _).1 hb
              exact ⟨y, hy, he, e, Array.mem_toList_iff.1 he', hb', hon⟩⟩
          cases hf : isFlt o with
          | true =>
            rw [hf] at h
            simp only at h
            split at h
            · rename_i v H' n' hx
              split at h
              · rename_i ao hao
                cases hcc : (n'.beq (n + 1) && own n v && aoBelow n0 ao) with
                | false => rw [hcc] at h; cases h
                | true =>
                  rw [hcc] at h
                  simp only [cond_true] at h
                  simp only [Bool.and_eq_true] at hcc
                  have e := Nat.eq_of_beq_eq_true hcc.1.1
                  subst e
                  obtain ⟨g1, g2⟩ := xItems_ok h (.flt hc (fit v (some (n, ao))) ⟨ao, H', rfl, hf, hx, hao, hcc.1.2, hcc.2⟩)
                  exact ⟨g1, by rw [g2]; simp⟩
              · cases h
            · cases h
          | false =>
            rw [hf] at h
            simp only at h
            split at h
            · rename_i v hx
              cases hs : solid n v with
              | false => rw [hs] at h; cases h
              | true =>
                rw [hs] at h
                simp only [cond_true] at h
                obtain ⟨g1, g2⟩ := xItems_ok h (.take hc (fit v none) ⟨rfl, hf, hx, hs⟩)
                exact ⟨g1, by rw [g2]; simp⟩
            · cases h
      · cases h
theorem Chain.le {acc : List Item} {n : Nat} (h : Chain P C G sz ops n0 T0 dsts n1 acc n) : n1 ≤ n := by
  induction h with
  | nil => exact Nat.le_refl _
  | take _ _ _ ih => exact ih
  | flt _ _ _ ih => omega
theorem Chain.uniq {acc : List Item} {n : Nat} (h : Chain P C G sz ops n0 T0 dsts n1 acc n) : ∀ x ∈ acc, ∀ y ∈ acc, x.t = y.t → x = y := by
  induction h with
  | nil => intro x hx; cases hx
  | take _ f _ ih | flt _ f _ ih =>
    intro x hx y hy e
    rcases List.mem_append.1 hx with hx1 | hx <;> rcases List.mem_append.1 hy with hy1 | hy
    · exact ih x hx1 y hy1 e
    · rw [List.mem_singleton] at hy; subst hy; exact (f.fresh x hx1 e).elim
    · rw [List.mem_singleton] at hx; subst hx; exact (f.fresh y hy1 e.symm).elim
    · rw [List.mem_singleton] at hx hy; rw [hx, hy]
theorem Chain.ob {acc : List Item} {n : Nat} (h : Chain P C G sz ops n0 T0 dsts n1 acc n) : ∀ x ∈ acc, ∀ b ao, x.ob = some (b, ao) → n1 ≤ b ∧ b < n ∧ b + 1 < 1048576 ∧ aoBelow n0 ao = true ∧ own b x.v = true := by
  induction h with
  | nil => intro x hx; cases hx
  | take _ f t ih =>
    intro x hx b ao hob
    rcases List.mem_append.1 hx with hx | hx
    · exact ih x hx b ao hob
    · rw [List.mem_singleton] at hx; subst hx; rw [t.1] at hob; cases hob
  | flt hc f t ih =>
    intro x hx b ao hob
    rcases List.mem_append.1 hx with hx | hx
    · obtain ⟨g1, g2, g3, g4⟩ := ih x hx b ao hob; exact ⟨g1, by omega, g3, g4⟩
    · rw [List.mem_singleton] at hx; subst hx
      obtain ⟨ao', H', t1, _, _, _, t5, t6⟩ := t
      rw [t1] at hob
      cases hob
      exact ⟨hc.le, by omega, f.big, t6, t5⟩
theorem Chain.wf {acc : List Item} {n : Nat} (h : Chain P C G sz ops n0 T0 dsts n1 acc n) (ρ : Env) {m : Nat} (hm : n ≤ m) : ∀ x ∈ acc, x.v.wf ρ m := by
  induction h generalizing m with
  | nil => intro x hx; cases hx
  | take _ f t ih =>
    intro x hx
    rcases List.mem_append.1 hx with hx | hx
    · exact ih hm x hx
    · rw [List.mem_singleton] at hx; subst hx; exact solid_wf ρ hm _ t.2.2.2
  | flt hc f t ih =>
    intro x hx
    rcases List.mem_append.1 hx with hx | hx
    · exact ih (by omega) x hx
    · rw [List.mem_singleton] at hx; subst hx
      obtain ⟨ao', H', t1, _, _, _, t5, t6⟩ := t
      exact own_wf ρ t5 (by omega)
theorem Chain.obUniq {acc : List Item} {n : Nat} (h : Chain P C G sz ops n0 T0 dsts n1 acc n) : ∀ x ∈ acc, ∀ y ∈ acc, ∀ b ao ao', x.ob = some (b, ao) → y.ob = some (b, ao') → x = y := by
  induction h with
  | nil => intro x hx; cases hx
  | take _ f t ih =>
    intro x hx y hy b ao ao' h1 h2
    rcases List.mem_append.1 hx with hx | hx <;> rcases List.mem_append.1 hy with hy | hy
    · exact ih x hx y hy b ao ao' h1 h2
    · rw [List.mem_singleton] at hy; subst hy; rw [t.1] at h2; cases h2
    · rw [List.mem_singleton] at hx; subst hx; rw [t.1] at h1; cases h1
    · rw [List.mem_singleton] at hx hy; rw [hx, hy]
  | flt hc f t ih =>
    obtain ⟨ao3, H', t1, _⟩ := t
    intro x hx y hy b ao ao' h1 h2
    rcases List.mem_append.1 hx with hx1 | hx <;> rcases List.mem_append.1 hy with hy1 | hy
    · exact ih x hx1 y hy1 b ao ao' h1 h2
    · have h3 := (hc.ob x hx1 b ao h1).2.1
      rw [List.mem_singleton] at hy; subst hy; rw [t1] at h2; simp only [Option.some.injEq, Prod.mk.injEq] at h2; omega
    · have h3 := (hc.ob y hy1 b ao' h2).2.1
      rw [List.mem_singleton] at hx; subst hx; rw [t1] at h1; simp only [Option.some.injEq, Prod.mk.injEq] at h1; omega
    · rw [List.mem_singleton] at hx hy; rw [hx, hy]
theorem putIts_snoc (T : Tm) (acc : List Item) (x : Item) : putIts T (acc ++ [x]) = Tr.set 9 (putIts T acc) x.t (some x.v) := by simp [putIts]
theorem tget_set (T : Tm) (k : Nat) (v : AV) (hk : k < 510) (t : Nat) : tget (Tr.set 9 T k (some v)) t = if t = k then v else tget T t := by
  unfold tget
  rw [Tr.get_set 9 T k t _ (by omega)]
  by_cases e : t = k <;> simp [e]
theorem Chain.get {acc : List Item} {n : Nat} (h : Chain P C G sz ops n0 T0 dsts n1 acc n) (T : Tm) : (∀ x ∈ acc, tget (putIts T acc) x.t = x.v) ∧ ∀ t, (∀ x ∈ acc, x.t ≠ t) → tget (putIts T acc) t = tget T t := by
  induction h with
  | nil => exact ⟨fun x hx => (by cases hx), fun t _ => rfl⟩
  | take _ f _ ih | flt _ f _ ih =>
    refine ⟨fun x hx => ?_, fun t ht => ?_⟩
    · rw [putIts_snoc, tget_set _ _ _ f.lt2]
      rcases List.mem_append.1 hx with hx | hx
      · rw [if_neg (f.fresh x hx)]; exact ih.1 x hx
      · rw [List.mem_singleton] at hx; subst hx; rw [if_pos rfl]
    · rw [putIts_snoc, tget_set _ _ _ f.lt2, if_neg (Ne.symm (ht _ (List.mem_append_right _ (by simp))))]
      exact ih.2 t fun y hy => ht y (List.mem_append_left _ hy)
theorem Chain.obs {acc : List Item} {n : Nat} (h : Chain P C G sz ops n0 T0 dsts n1 acc n) (H : Hp) : (∀ x ∈ acc, ∀ b ao, x.ob = some (b, ao) → hv (putObs H acc) b = some ao) ∧ ∀ b, (∀ x ∈ acc, ∀ ao, x.ob ≠ some (b, ao)) → hv (putObs H acc) b = hv H b := by
  induction h with
  | nil => exact ⟨fun x hx => (by cases hx), fun t _ => rfl⟩
  | @take acc n x _ f t ih =>
    have e : putObs H (acc ++ [x]) = putObs H acc := by simp [putObs, t.1]
    rw [e]
    refine ⟨fun y hy b ao hob => ?_, fun b hb => ih.2 b fun y hy => hb y (List.mem_append_left _ hy)⟩
    rcases List.mem_append.1 hy with hy | hy
    · exact ih.1 y hy b ao hob
    · rw [List.mem_singleton] at hy; subst hy; rw [t.1] at hob; cases hob
  | @flt acc n x hc f t ih =>
    obtain ⟨ao3, H', t1, _⟩ := t
    have e : putObs H (acc ++ [x]) = Tr.set 20 (putObs H acc) n (some ao3) := by simp [putObs, t1]
    rw [e, hv_set _ _ _ f.big]
    refine ⟨fun y hy b ao hob => ?_, fun b hb => ?_⟩
    · rcases List.mem_append.1 hy with hy | hy
      · have := (hc.ob y hy b ao hob).2.1
        rw [upd_other _ _ (by omega)]
        exact ih.1 y hy b ao hob
      · rw [List.mem_singleton] at hy; subst hy; rw [t1] at hob; cases hob; rw [upd_same]
    · have : b ≠ n := fun e => hb x (List.mem_append_right _ (by simp)) ao3 (by rw [t1, e])
      rw [upd_other _ _ this]
      exact ih.2 b fun y hy => hb y (List.mem_append_left _ hy)
theorem Chain.fit {acc : List Item} {n : Nat} (h : Chain P C G sz ops n0 T0 dsts n1 acc n) : ∀ x ∈ acc, ∃ pre k, Chain P C G sz ops n0 T0 dsts n1 pre k ∧ (∀ y ∈ pre, y ∈ acc) ∧ Fit ops sz dsts pre k x ∧ k ≤ n ∧ (TakeFit P G T0 pre k x ∨ FltFit P C G n0 T0 pre k x) := by
  induction h with
  | nil => intro x hx; cases hx
  | @take acc n x hc f t ih =>
    intro y hy
    rcases List.mem_append.1 hy with hy | hy
    · obtain ⟨pre, k, g1, g2, g3, g4, g5⟩ := ih y hy; exact ⟨pre, k, g1, fun z hz => List.mem_append_left _ (g2 z hz), g3, g4, g5⟩
    · rw [List.mem_singleton] at hy; subst hy; exact ⟨acc, n, hc, fun z hz => List.mem_append_left _ hz, f, Nat.le_refl _, .inl t⟩
  | @flt acc n x hc f t ih =>
    intro y hy
    rcases List.mem_append.1 hy with hy | hy
    · obtain ⟨pre, k, g1, g2, g3, g4, g5⟩ := ih y hy; exact ⟨pre, k, g1, fun z hz => List.mem_append_left _ (g2 z hz), g3, by omega, g5⟩
    · rw [List.mem_singleton] at hy; subst hy; exact ⟨acc, n, hc, fun z hz => List.mem_append_left _ hz, f, by omega, .inr t⟩
end
/-- an activation whose slots hold what T says -/
def actOf (ρ : Env) (T : Tm) (sz : Nat) : Act := { tmps := (Array.range sz).map fun t => (tget T t).conc ρ, defers := marksOf ρ (markL (tget T 510)) }
theorem actOf_get (ρ : Env) (T : Tm) (sz t : Nat) (hb : sz ≤ t → (tget T t).conc ρ = undef) : (actOf ρ T sz).tmps.getD t undef = (tget T t).conc ρ := by
  unfold actOf
  rcases Nat.lt_or_ge t sz with h | h
  · simp [Array.getD_eq_getD_getElem?, h]
  · rw [hb h]
    simp only [Array.getD_eq_getD_getElem?]
    rw [Array.getElem?_eq_none (by simpa using h)]
    rfl
theorem actOf_ok {ρ : Env} {n : Nat} {T : Tm} {sz : Nat} (hw : ∀ t, (tget T t).wf ρ n) (hb : ∀ t, sz ≤ t → (tget T t).conc ρ = undef) : ActOk ρ n T sz (actOf ρ T sz) :=
  ⟨by simp [actOf], fun t => actOf_get ρ T sz t (hb t), hw, rfl⟩
/-- nothing named, all as it lies -/
theorem memNil {G n : Nat} {ρ : Env} (w : World) (hg : ∀ g, g < G → ρ g = ⟨g, 0, 1⟩) (hn : G ≤ n) : Mem w (fun c => c < w.heap.size) G ρ (hv .leaf) n w :=
  have e : ∀ b o, hv .leaf b = some o → False := fun b o h => by unfold hv at h; rw [Tr.get_leaf] at h; cases h
  ⟨fun b o h => (e b o h).elim, fun b o h => (e b o h).elim, fun b o h => (e b o h).elim, fun b b' o o' h => (e b o h).elim, fun c hc => ⟨hc, rfl⟩, fun b o h => (e b o h).elim, hg, hn, ⟨rfl, rfl, rfl⟩⟩
end
end Cx
end Go.Proofs.YtcpkihikmpkdnaaGreatDoor
