/- A verified executor of closed calls, part 10: the same choices, each way a constant of its own (the kernel copies less). A verified executor of closed calls, part 10: regions. -/
import Derived.Test.YtboondbognbnnaaGreatDoorQCB
set_option linter.unusedVariables false
set_option linter.unusedSimpArgs false
set_option linter.unusedVariables false
set_option linter.unusedSimpArgs false
namespace Go.Proofs.YtboondbognbnnaaGreatDoor
namespace Cx
noncomputable section
abbrev PureK := Program → (Operand → AV) → TypeId → Option AV
def pNone : PureK := fun _ _ _ => none
def pMove (x : Operand) : PureK := fun _ ev _ => some (ev x)
def pPick (c a b : Operand) : PureK := fun _ ev _ => xPick (ev c) (ev a) (ev b)
def pBuild (t : TypeId) (ps : Array (Nat × Operand)) : PureK := fun P ev _ => xBuild P t (ps.toList.map fun p => (p.1, ev p.2))
def pNil (x : Operand) : PureK := fun _ ev _ => xNil (ev x)
def pBin (op : BinOp) (t : TypeId) (x y : Operand) : PureK := fun P ev _ => xBin P op t x y (ev x) (ev y)
def pUn (op : UnOp) (x : Operand) : PureK := fun P ev _ => xUn P op (ev x)
def pConv (s d : TypeId) (x : Operand) : PureK := fun P ev _ => xConv P s d (ev x)
def pMkI (t : TypeId) (x : Operand) : PureK := fun P ev _ => xMkI P t (ev x)
def pMkF (fn : Fn) (f c : Array Operand) : PureK := fun _ ev _ => some (.fn fn (f.toList.map ev) (c.toList.map ev))
def pSlice (t : TypeId) (x : Operand) (lo hi mx : Option Operand) : PureK := fun P ev _ => xSliceAt P t (ev x) (lo.map ev) (hi.map ev) (mx.map ev)
def pFieldAddr (s : TypeId) (x : Operand) (f : Nat) : PureK := fun P ev _ => xFieldAddr P s (ev x) f
def pField (s : TypeId) (x : Operand) (f : Nat) : PureK := fun P ev _ => xField P s (ev x) f
def pIndexAddr (t : TypeId) (x i : Operand) : PureK := fun P ev _ => xIndexAddr P t (ev x) (ev i)
def pIndex (t : TypeId) (x i : Operand) : PureK := fun P ev _ => xIndex P t (ev x) (ev i)
def pExtract (x : Operand) (i : Nat) : PureK := fun _ ev _ => xExtract (ev x) i
def pAssert (x : Operand) (t : TypeId) (ok : Bool) : PureK := fun P ev _ => xAssert P t ok (ev x)
def pCall (c : Call) : PureK := fun P ev ty => xCallPure P c ty ev
def yPure (P : Program) (ev : Operand → AV) (o : Oper) : Option AV :=
  (match o.op with
  | .move x => pMove x
  | .assign x => pMove x
  | .pick c a b => pPick c a b
  | .build t ps => pBuild t ps
  | .nilCheck x => pNil x
  | .binOp op t x y _ => pBin op t x y
  | .unOp op _ x => pUn op x
  | .convert s d x => pConv s d x
  | .makeInterface t x => pMkI t x
  | .makeFunc fn f c => pMkF fn f c
  | .slice t x lo hi mx => pSlice t x lo hi mx
  | .fieldAddr s x f => pFieldAddr s x f
  | .field s x f => pField s x f
  | .indexAddr t x i => pIndexAddr t x i
  | .index t x i => pIndex t x i
  | .extract x i => pExtract x i
  | .typeAssert x _ t ok => pAssert x t ok
  | .call c => pCall c
  | _ => pNone) P ev o.type
theorem yPure_eq (P : Program) (ev : Operand → AV) (o : Oper) : yPure P ev o = xPure P ev o := by
  obtain ⟨dst, op, type, pos, after, guard⟩ := o
  cases op <;> rfl
abbrev EffK := Program → Cal → (Operand → AV) → Hp → Nat → TypeId → Option (AV × Hp × Nat)
def ePure (k : PureK) : EffK := fun P _ ev H n ty => match k P ev ty with
  | some v => some (v, H, n)
  | none => none
def eLoad (t : TypeId) (x : Operand) : EffK := fun P _ ev H n _ => match xLoad P (hv H) t (ev x) with
  | some v => some (v, H, n)
  | none => none
def eAlloc (t : TypeId) : EffK := fun P _ _ H n _ => xAlloc P H n t
def eBox (t : TypeId) (x : Operand) : EffK := fun _ _ ev H n _ => xBox H n t (ev x)
def eBuildSlice (t : TypeId) (len : Nat) (ps : Array (Nat × Operand)) : EffK := fun P _ ev H n _ => xBuildSlice P H n t len (ps.toList.map fun p => (p.1, ev p.2))
def eStore (t : TypeId) (x v : Operand) : EffK := fun P _ ev H n _ => xStore P H n t (ev x) (ev v)
def eMakeSlice (t : TypeId) (l c : Operand) : EffK := fun P _ ev H n _ => xMakeSlice P H n t (ev l) (ev c)
def eMakeMap (t : TypeId) (r : Option Operand) : EffK := fun P _ ev H n _ => xMakeMap P H n t (r.map ev)
def eLookup (t : TypeId) (x i : Operand) (ok : Bool) : EffK := fun P _ ev H n _ => (xLookup P (hv H) t (ev x) (ev i) ok).map fun v => (v, H, n)
def eMapSet (t : TypeId) (m k v : Operand) : EffK := fun P _ ev H n _ => xMapSet P H n t (ev m) (ev k) (ev v)
def eCall (c : Call) : EffK := fun P C ev H n ty => xCallEff P C ev H n c ty
def eConv (s d : TypeId) (x : Operand) : EffK := fun P _ ev H n _ => match xConv P s d (ev x) with
  | some v => some (v, H, n)
  | none => (xConvPtr P (hv H) s d (ev x)).map fun v => (v, H, n)
def eBin (op : BinOp) (t : TypeId) (x y : Operand) : EffK := fun P _ ev H n _ => match xBin P op t x y (ev x) (ev y) with
  | some v => some (v, H, n)
  | none => (xPtrEq P op t (ev x) (ev y)).map fun v => (v, H, n)
def eNone : EffK := fun _ _ _ _ _ _ => none
def yEff (P : Program) (C : Cal) (ev : Operand → AV) (H : Hp) (n : Nat) (o : Oper) : Option (AV × Hp × Nat) :=
  (match o.op with
  | .move x => ePure (pMove x)
  | .assign x => ePure (pMove x)
  | .pick c a b => ePure (pPick c a b)
  | .build t ps => ePure (pBuild t ps)
  | .nilCheck x => ePure (pNil x)
  | .binOp op t x y _ => eBin op t x y
  | .unOp op _ x => ePure (pUn op x)
  | .convert s d x => eConv s d x
  | .makeInterface t x => ePure (pMkI t x)
  | .makeFunc fn f c => ePure (pMkF fn f c)
  | .slice t x lo hi mx => ePure (pSlice t x lo hi mx)
  | .fieldAddr s x f => ePure (pFieldAddr s x f)
  | .field s x f => ePure (pField s x f)
  | .indexAddr t x i => ePure (pIndexAddr t x i)
  | .index t x i => ePure (pIndex t x i)
  | .extract x i => ePure (pExtract x i)
  | .typeAssert x _ t ok => ePure (pAssert x t ok)
  | .call c => eCall c
  | .load t x => eLoad t x
  | .alloc t => eAlloc t
  | .box t x => eBox t x
  | .buildSlice t len ps => eBuildSlice t len ps
  | .store t x v => eStore t x v
  | .makeSlice t l c => eMakeSlice t l c
  | .makeMap t r => eMakeMap t r
  | .lookup t x i ok => eLookup t x i ok
  | .mapUpdate t m k v => eMapSet t m k v
  | .insert t m k v => eMapSet t m k v
  | _ => eNone) P C ev H n o.type
theorem ePure_eq (k : PureK) (P : Program) (C : Cal) (ev : Operand → AV) (H : Hp) (n : Nat) (ty : TypeId) : ePure k P C ev H n ty = (k P ev ty).map fun v => (v, H, n) := by
  unfold ePure
  cases k P ev ty <;> rfl
theorem eLoad_eq (t : TypeId) (x : Operand) (P : Program) (C : Cal) (ev : Operand → AV) (H : Hp) (n : Nat) (ty : TypeId) : eLoad t x P C ev H n ty = (xLoad P (hv H) t (ev x)).map fun v => (v, H, n) := by
  unfold eLoad
  cases xLoad P (hv H) t (ev x) <;> rfl
theorem yEff_eq (P : Program) (C : Cal) (ev : Operand → AV) (H : Hp) (n : Nat) (o : Oper) : yEff P C ev H n o = xEff P C ev H n o := by
  obtain ⟨dst, op, type, pos, after, guard⟩ := o
  cases op <;> first | rfl | (simp only [yEff, ePure_eq, eLoad_eq]; rfl)
def lNone : Option (TypeId × Operand) := none
def lSome (t : TypeId) (x : Operand) : Option (TypeId × Operand) := some (t, x)
def loadOf (o : Oper) : Option (TypeId × Operand) :=
  match o.op with
  | .load t x => lSome t x
  | _ => lNone
theorem loadOf_some {o : Oper} {t : TypeId} {x : Operand} (h : loadOf o = some (t, x)) : o.op = .load t x := by
  unfold loadOf at h
  split at h
  · rename_i t' x' ho
    cases h
    exact ho
  · cases h
end
end Cx
end Go.Proofs.YtboondbognbnnaaGreatDoor

set_option linter.unusedVariables false
set_option linter.unusedSimpArgs false
namespace Go.Proofs.YtboondbognbnnaaGreatDoor
namespace Cx
noncomputable section
def tput (T : Tm) (sz : Nat) (dst : Option Tmp) (v : AV) : Option Tm :=
  match dst with
  | none => some T
  | some d => bif Nat.blt d sz && Nat.blt d 510 then some (Tr.set 9 T d (some v)) else none
def evA (G : Nat) (T : Tm) : Operand → AV
  | .tmp t => tget T t
  | .const v => litAgg v
  | .global g => bif Nat.blt g G then .ptr g 0 else .lit (.pointer (some ⟨g, 0, none⟩))
  | .func f => .lit (.func (.func f) #[] #[])
/-- the marks among the deferred calls: in slot 510 -/
def markOf (ρ : Env) : AV → Deferred
  | .yld b => { target := .collected (ρ b).blk, args := #[] }
  | .fn f xs ys => { target := .fn f ⟨ys.map (AV.conc ρ)⟩, args := ⟨xs.map (AV.conc ρ)⟩ }
  | _ => { target := .nil, args := #[] }
def marksOf (ρ : Env) (l : List AV) : List Deferred := l.map (markOf ρ)
def markL : AV → List AV
  | .mrk l => l
  | _ => []
theorem markOf_ext {n : Nat} {ρ ρ' : Env} (h : ∀ b, b < n → ρ' b = ρ b) (v : AV) (hv : v.wf ρ n) : markOf ρ' v = markOf ρ v := by
  cases v with
  | yld b => simp only [AV.wf] at hv; simp only [markOf, h b hv]
  | fn f xs ys =>
    simp only [AV.wf] at hv
    have e1 : xs.map (AV.conc ρ') = xs.map (AV.conc ρ) := List.map_congr_left fun u hu => conc_ext h u ((wfs_iff ρ n _).1 hv.1 u hu)
    have e2 : ys.map (AV.conc ρ') = ys.map (AV.conc ρ) := List.map_congr_left fun u hu => conc_ext h u ((wfs_iff ρ n _).1 hv.2 u hu)
    simp only [markOf, e1, e2]
  | _ => rfl
theorem marksOf_ext {n : Nat} {ρ ρ' : Env} (h : ∀ b, b < n → ρ' b = ρ b) (l : List AV) (hl : ∀ v ∈ l, v.wf ρ n) : marksOf ρ' l = marksOf ρ l :=
  List.map_congr_left fun v hv => markOf_ext h v (hl v hv)
theorem markL_wf {ρ : Env} {n : Nat} {v : AV} (h : v.wf ρ n) : ∀ u ∈ markL v, u.wf ρ n := by
  cases v <;> first | (simp only [AV.wf] at h; exact (wfs_iff ρ n _).1 h) | (intro b hb; cases hb)
structure ActOk (ρ : Env) (n : Nat) (T : Tm) (sz : Nat) (a : Act) : Prop where
  size : a.tmps.size = sz
  val : ∀ t, a.tmps.getD t undef = (tget T t).conc ρ
  wf : ∀ t, (tget T t).wf ρ n
  defers : a.defers = marksOf ρ (markL (tget T 510))
section
variable {P : Program} {w0 : World} {out : Nat → Prop} {G : Nat} {ρ : Env} {H : Hp} {n : Nat} {w : World} {T : Tm} {sz : Nat} {a : Act}
theorem ActOk.ext (A : ActOk ρ n T sz a) {ρ' : Env} {m : Nat} (hρ : ∀ b, b < n → ρ' b = ρ b) (hm : n ≤ m) : ActOk ρ' m T sz a :=
  ⟨A.size, fun t => by rw [A.val t, conc_ext hρ _ (A.wf t)], fun t => wf_ext hρ hm _ (A.wf t), by rw [A.defers, marksOf_ext hρ _ (markL_wf (A.wf 510))]⟩
theorem ActOk.put (A : ActOk ρ n T sz a) {dst : Option Tmp} {v : AV} (hv : v.wf ρ n) {T' : Tm} (h : tput T sz dst v = some T') : ActOk ρ n T' sz (a.put dst (v.conc ρ)) := by
  unfold tput at h
  split at h
  · cases h; exact A
  · rename_i d
    cases hc : (Nat.blt d sz && Nat.blt d 510) with
    | false => rw [hc] at h; cases h
    | true =>
      rw [hc] at h
      cases h
      simp only [Bool.and_eq_true, Nat.blt_eq] at hc
      have hg : ∀ t, tget (Tr.set 9 T d (some v)) t = if t = d then v else tget T t := fun t => by
        unfold tget
        rw [Tr.get_set 9 T d t (some v) (by have := hc.2; omega)]
        by_cases e : t = d <;> simp [e]
      refine ⟨by simp [Act.put, A.size], fun t => ?_, fun t => ?_, by rw [hg, if_neg (by have := hc.2; omega)]; exact A.defers⟩
      · rw [hg]
        by_cases e : t = d
        · subst e
          rw [if_pos rfl]
          simp [Act.put, Array.getD_eq_getD_getElem?, Array.getElem?_setIfInBounds, A.size, hc.1]
        · rw [if_neg e, ← A.val t]
          simp [Act.put, Array.getD_eq_getD_getElem?, Array.getElem?_setIfInBounds, show ¬ d = t from fun h => e h.symm]
      · rw [hg]
        by_cases e : t = d
        · rw [if_pos e]; exact hv
        · rw [if_neg e]; exact A.wf t
theorem ActOk.ev (A : ActOk ρ n T sz a) (M : Mem w0 out G ρ (hv H) n w) (x : Operand) : a.eval x = (evA G T x).conc ρ ∧ (evA G T x).wf ρ n := by
  cases x with
  | tmp t => exact ⟨A.val t, A.wf t⟩
  | const v => exact ⟨(conc_litAgg ρ v).symm, wf_litAgg ρ n v⟩
  | global g =>
    simp only [evA]
    by_cases hg : Nat.blt g G = true
    · rw [hg]
      have hg : g < G := by simpa [Nat.blt_eq] using hg
      refine ⟨?_, ?_⟩
      · show _ = AV.conc ρ (.ptr g 0)
        simp [AV.conc, M.glob g hg, Act.eval]
      · show AV.wf ρ n (.ptr g 0)
        have := M.globs
        simp only [AV.wf]; omega
    · rw [Bool.eq_false_iff.2 hg]
      exact ⟨rfl, by simp only [cond_false, AV.wf]⟩
  | func f => exact ⟨rfl, by simp only [evA, AV.wf]⟩
/-- is it wanted? -/
def xWanted (ops : Array Oper) (T : Tm) (o : Oper) : Bool :=
  match o.guard with
  | none => true
  | some (j, want) => match (ops[j]?).bind (·.dst) with
    | some d => match tget T d with
      | .lit (.bool b) => b == want
      | _ => false
    | none => false
theorem xWanted_ok (A : ActOk ρ n T sz a) (ops : Array Oper) (o : Oper) : Region.wanted o (yielded ops a.tmps) = xWanted ops T o := by
  unfold Region.wanted xWanted
  cases hg : o.guard with
  | none => rfl
  | some g =>
    obtain ⟨j, want⟩ := g
    simp only
    unfold yielded
    cases hd : (ops[j]?).bind (·.dst) with
    | none => simp
    | some d =>
      simp only [Option.bind_some]
      have hv := A.val d
      rw [Array.getD_eq_getD_getElem?] at hv
      cases hc : a.tmps[d]? with
      | none =>
        rw [hc] at hv
        simp only [Option.getD_none] at hv
        cases ht : tget T d with
        | lit u =>
          rw [ht] at hv
          simp only [AV.conc] at hv
          subst hv
          simp [undef]
        | _ => simp
      | some u =>
        rw [hc] at hv
        simp only [Option.getD_some] at hv
        subst hv
        cases ht : tget T d with
        | lit u =>
          simp only [AV.conc]
          cases u <;> simp
        | _ => simp [AV.conc]
/-! ### regions that keep their order -/
def xSeq (P : Program) (C : Cal) (G sz : Nat) (ops : Array Oper) : List Oper → Tm → Hp → Nat → Option (Tm × Hp × Nat)
  | [], T, H, n => some (T, H, n)
  | o :: l, T, H, n => match xWanted ops T o with
    | true => match yEff P C (evA G T) H n o with
      | some (v, H', n') => match tput T sz o.dst v with
        | some T' => xSeq P C G sz ops l T' H' n'
        | none => none
      | none => none
    | false => match tput T sz o.dst (.lit undef) with
      | some T' => xSeq P C G sz ops l T' H n
      | none => none
/-- where a piece of code leaves off -/
def At (w0 : World) (out : Nat → Prop) (G : Nat) (ρ : Env) (n sz : Nat) (T' : Tm) (H' : Hp) (n' : Nat) (a' : Act) (w' : World) : Prop :=
  ∃ ρ', ActOk ρ' n' T' sz a' ∧ Mem w0 out G ρ' (hv H') n' w' ∧ (∀ b, b < n → ρ' b = ρ b) ∧ n ≤ n'
theorem At.back {n1 : Nat} {ρ1 : Env} {T' : Tm} {H' : Hp} {n' : Nat} {a' : Act} {w' : World} (h : At w0 out G ρ1 n1 sz T' H' n' a' w') (hρ : ∀ b, b < n → ρ1 b = ρ b) (hn : n ≤ n1) : At w0 out G ρ n sz T' H' n' a' w' := by
  obtain ⟨ρ', h1, h2, h3, h4⟩ := h
  exact ⟨ρ', h1, h2, fun b hb => by rw [h3 b (by omega), hρ b hb], by omega⟩
theorem xSeq_ok {ro : Option Nat} {m : Nat} {C : Cal} (hc : CalOk P G C) {ops : Array Oper} {Q : Exit → Act → World → Prop} : ∀ (l : List Oper) {T : Tm} {H : Hp} {n : Nat} {ρ : Env} {a : Act} {w : World} {T' : Tm} {H' : Hp} {n' : Nat},
    xSeq P C G sz ops l T H n = some (T', H', n') → ActOk ρ n T sz a → Mem w0 out G ρ (hv H) n w → (∀ a' w', At w0 out G ρ n sz T' H' n' a' w' → Q .normal a' w') → wpListIn (FW ro) m P ops Q l a w
  | [], T, H, n, ρ, a, w, T', H', n', h, A, M, hQ => by
    simp only [xSeq, Option.some.injEq, Prod.mk.injEq] at h
    obtain ⟨rfl, rfl, rfl⟩ := h
    exact hQ a w ⟨ρ, A, M, fun _ _ => rfl, Nat.le_refl _⟩
  | o :: l, T, H, n, ρ, a, w, T', H', n', h, A, M, hQ => by
    simp only [xSeq, yEff_eq] at h
    unfold wpListIn
    rw [xWanted_ok A ops o]
    cases hw : xWanted ops T o with
    | true =>
      rw [hw] at h
      simp only at h
      split at h
      · rename_i v H1 n1 he
        split at h
        · rename_i T1 ht
          refine (xEff_ok hc M (fun x => (A.ev M x).1) (fun x => (A.ev M x).2) he fun ρ1 w1 M1 hρ hwf hn => ?_)
          exact xSeq_ok hc l h ((A.ext hρ hn).put hwf ht) M1 fun a' w' hat => hQ a' w' (hat.back hρ hn)
        · cases h
      · cases h
    | false =>
      rw [hw] at h
      simp only at h
      split at h
      · rename_i T1 ht
        exact ⟨fun _ _ => trivial, xSeq_ok hc l h (A.put (v := .lit undef) (by simp only [AV.wf]) ht) M hQ⟩
      · cases h
/-! ### regions that draw their order -/
/-- the same? -/
def litSame : Value → Value → Bool
  | .bool a, .bool b => a == b
  | .int k a, .int j b => decide (k = j) && decide (a = b)
  | .string a, .string b => decide (a = b)
  | .pointer none, .pointer none => true
  | .slice none 0 0, .slice none 0 0 => true
  | .nilFunc, .nilFunc => true
  | .nilIface, .nilIface => true
  | .map none, .map none => true
  | .func (.func f) xs ys, .func (.func g) xs' ys' => f.beq g && xs.isEmpty && ys.isEmpty && xs'.isEmpty && ys'.isEmpty
  | _, _ => false
theorem litSame_eq {x y : Value} (h : litSame x y = true) : x = y := by
  unfold litSame at h
  split at h <;> first | rfl | (simp at h; simp [h]; done) | (cases h; done) | (simp only [Bool.and_eq_true, Array.isEmpty_iff] at h; obtain ⟨⟨⟨⟨h1, rfl⟩, rfl⟩, rfl⟩, rfl⟩ := h; rw [Nat.eq_of_beq_eq_true h1])
def optSame : Option Nat → Option Nat → Bool
  | none, none => true
  | some a, some b => a.beq b
  | _, _ => false
theorem optSame_eq {x y : Option Nat} (h : optSame x y = true) : x = y := by
  unfold optSame at h
  split at h
  · rfl
  · rw [Nat.eq_of_beq_eq_true h]
  · cases h
mutual
def avSame : AV → AV → Bool
  | .lit x, .lit y => litSame x y
  | .ptr b o, .ptr c p => b.beq c && o.beq p
  | .slc b o p j l c, .slc b' o' p' j' l' c' => b.beq b' && o.beq o' && p.beq p' && j.beq j' && l.beq l' && optSame c c'
  | .mp b, .mp c => b.beq c
  | .ifc t v, .ifc u x => t.beq u && avSame v x
  | .fn (.func f) xs ys, .fn (.func g) xs' ys' => f.beq g && avsSame xs xs' && avsSame ys ys'
  | _, _ => false
def avsSame : List AV → List AV → Bool
  | [], [] => true
  | x :: xs, y :: ys => avSame x y && avsSame xs ys
  | _, _ => false
end
mutual
theorem avSame_eq : ∀ (x y : AV), avSame x y = true → x = y
  | .lit x, y, h => by
    cases y with
    | lit y => simp only [avSame] at h; rw [litSame_eq h]
    | _ => simp [avSame] at h
  | .ptr b o, y, h => by
    cases y with
    | ptr c p => simp only [avSame, Bool.and_eq_true] at h; rw [Nat.eq_of_beq_eq_true h.1, Nat.eq_of_beq_eq_true h.2]
    | _ => simp [avSame] at h
  | .slc b o p j l c, y, h => by
    cases y with
    | slc b' o' p' j' l' c' =>
      simp only [avSame, Bool.and_eq_true] at h
      obtain ⟨⟨⟨⟨⟨h1, h2⟩, h3⟩, h4⟩, h5⟩, h6⟩ := h
      rw [Nat.eq_of_beq_eq_true h1, Nat.eq_of_beq_eq_true h2, Nat.eq_of_beq_eq_true h3, Nat.eq_of_beq_eq_true h4, Nat.eq_of_beq_eq_true h5, optSame_eq h6]
    | _ => simp [avSame] at h
  | .mp b, y, h => by
    cases y with
    | mp c => simp only [avSame] at h; rw [Nat.eq_of_beq_eq_true h]
    | _ => simp [avSame] at h
  | .agg l, y, h => by simp [avSame] at h
  | .tup l, y, h => by simp [avSame] at h
  | .ifc t v, y, h => by
    cases y with
    | ifc u x => simp only [avSame, Bool.and_eq_true] at h; rw [Nat.eq_of_beq_eq_true h.1, avSame_eq v x h.2]
    | _ => simp [avSame] at h
  | .fn f xs ys, y, h => by
    cases y with
    | fn g xs' ys' =>
      cases f <;> cases g <;> simp [avSame] at h
      obtain ⟨⟨h1, h2⟩, h3⟩ := h
      rw [h1, avsSame_eq xs xs' h2, avsSame_eq ys ys' h3]
    | _ => cases f <;> simp [avSame] at h
  | .yld b, y, h => by simp [avSame] at h
  | .mrk l, y, h => by simp [avSame] at h
theorem avsSame_eq : ∀ (x y : List AV), avsSame x y = true → x = y
  | [], [], _ => rfl
  | [], _ :: _, h => by simp [avsSame] at h
  | _ :: _, [], h => by simp [avsSame] at h
  | x :: xs, y :: ys, h => by
    simp only [avsSame, Bool.and_eq_true] at h
    rw [avSame_eq x y h.1, avsSame_eq xs ys h.2]
end
/-- do these cells lie there? -/
def cellsSame (h : Hv) (b o : Nat) (vs : List AV) : Bool :=
  match h b with
  | some (.cells l _ _) => match takeN vs.length (l.drop o) with
    | some us => avsSame us vs
    | none => false
  | _ => false
theorem cellsSame_ok {h : Hv} {b o : Nat} {vs : List AV} (hs : cellsSame h b o vs = true) (M : Mem w0 out G ρ h n w) : CellsAt ρ w b o vs ∧ AV.wfs ρ n vs ∧ b < n := by
  unfold cellsSame at hs
  split at hs
  · rename_i l e x hb
    split at hs
    · rename_i us hu
      have := avsSame_eq _ _ hs
      subst this
      obtain ⟨h1, h2⟩ := takeN_eq hu
      refine ⟨M.cellsAt hb o us fun i v hi => ?_, (wfs_iff ρ n _).2 fun v hv => (wfs_iff ρ n l).1 (M.obj b _ hb).2 v ?_, M.lt b _ hb⟩
      · rw [h2, List.getElem?_take] at hi
        split at hi
        · rwa [List.getElem?_drop] at hi
        · cases hi
      · rw [h2] at hv
        exact List.mem_of_mem_drop (List.mem_of_mem_take hv)
    · cases hs
  · cases hs
end
end
end Cx
end Go.Proofs.YtboondbognbnnaaGreatDoor
