/- A verified executor of closed calls, part 10: the same choices, each way a constant of its own (the kernel copies less). -/
import Derived.Test.YtcpkihikmpkdnaaGreatDoorCi
set_option linter.unusedVariables false
set_option linter.unusedSimpArgs false
namespace Go.Proofs.YtcpkihikmpkdnaaGreatDoor
namespace Cx
noncomputable section
abbrev PureK := Program → (Operand → AV) → TypeId → Option AV
def pNone : PureK := fun _ _ _ => none
def pMove (x : Operand) : PureK := fun _ ev _ => some (ev x)
def pPick (c a b : Operand) : PureK := fun _ ev _ => xPick (ev c) (ev a) (ev b)
def pBuild (t : TypeId) (ps : Array (Nat × Operand)) : PureK := fun P ev _ => xBuild P t (ps.toList.map fun p => (p.1, ev p.2))
def pNil (x : Operand) : PureK := fun _ ev _ => xNil (ev x)
def pBin (op : BinOp) (t : TypeId) (x y : Operand) : PureK := fun P ev _ => xBin P op t x y (ev x) (ev y)
def pUn (op : UnOp) (x : Operand) : PureK := fun P ev _ => xUn P op (ev x)
def pConv (s d : TypeId) (x : Operand) : PureK := fun P ev _ => xConv P s d (ev x)
def pMkI (t : TypeId) (x : Operand) : PureK := fun P ev _ => xMkI P t (ev x)
def pMkF (fn : Fn) (f c : Array Operand) : PureK := fun _ ev _ => some (.fn fn (f.toList.map ev) (c.toList.map ev))
def pSlice (t : TypeId) (x : Operand) (lo hi mx : Option Operand) : PureK := fun P ev _ => xSliceAt P t (ev x) (lo.map ev) (hi.map ev) (mx.map ev)
def pFieldAddr (s : TypeId) (x : Operand) (f : Nat) : PureK := fun P ev _ => xFieldAddr P s (ev x) f
def pField (s : TypeId) (x : Operand) (f : Nat) : PureK := fun P ev _ => xField P s (ev x) f
def pIndexAddr (t : TypeId) (x i : Operand) : PureK := fun P ev _ => xIndexAddr P t (ev x) (ev i)
def pIndex (t : TypeId) (x i : Operand) : PureK := fun P ev _ => xIndex P t (ev x) (ev i)
def pExtract (x : Operand) (i : Nat) : PureK := fun _ ev _ => xExtract (ev x) i
def pAssert (x : Operand) (t : TypeId) (ok : Bool) : PureK := fun P ev _ => xAssert P t ok (ev x)
def pCall (c : Call) : PureK := fun P ev ty => xCallPure P c ty ev
def yPure (P : Program) (ev : Operand → AV) (o : Oper) : Option AV :=
  (match o.op with
  | .move x => pMove x
  | .assign x => pMove x
  | .pick c a b => pPick c a b
  | .build t ps => pBuild t ps
  | .nilCheck x => pNil x
  | .binOp op t x y _ => pBin op t x y
  | .unOp op _ x => pUn op x
  | .convert s d x => pConv s d x
  | .makeInterface t x => pMkI t x
  | .makeFunc fn f c => pMkF fn f c
  | .slice t x lo hi mx => pSlice t x lo hi mx
  | .fieldAddr s x f => pFieldAddr s x f
  | .field s x f => pField s x f
  | .indexAddr t x i => pIndexAddr t x i
  | .index t x i => pIndex t x i
  | .extract x i => pExtract x i
  | .typeAssert x _ t ok => pAssert x t ok
  | .call c => pCall c
  | _ => pNone) P ev o.type
theorem yPure_eq (P : Program) (ev : Operand → AV) (o : Oper) : yPure P ev o = xPure P ev o := by
  obtain ⟨dst, op, type, pos, after, guard⟩ := o
  cases op <;> rfl
abbrev EffK := Program → Cal → (Operand → AV) → Hp → Nat → TypeId → Option (AV × Hp × Nat)
def ePure (k : PureK) : EffK := fun P _ ev H n ty => match k P ev ty with
  | some v => some (v, H, n)
  | none => none
def eLoad (t : TypeId) (x : Operand) : EffK := fun P _ ev H n _ => match xLoad P (hv H) t (ev x) with
  | some v => some (v, H, n)
  | none => none
def eAlloc (t : TypeId) : EffK := fun P _ _ H n _ => xAlloc P H n t
def eBox (t : TypeId) (x : Operand) : EffK := fun _ _ ev H n _ => xBox H n t (ev x)
def eBuildSlice (t : TypeId) (len : Nat) (ps : Array (Nat × Operand)) : EffK := fun P _ ev H n _ => xBuildSlice P H n t len (ps.toList.map fun p => (p.1, ev p.2))
def eStore (t : TypeId) (x v : Operand) : EffK := fun P _ ev H n _ => xStore P H n t (ev x) (ev v)
def eMakeSlice (t : TypeId) (l c : Operand) : EffK := fun P _ ev H n _ => xMakeSlice P H n t (ev l) (ev c)
def eMakeMap (t : TypeId) (r : Option Operand) : EffK := fun P _ ev H n _ => xMakeMap P H n t (r.map ev)
def eLookup (t : TypeId) (x i : Operand) (ok : Bool) : EffK := fun P _ ev H n _ => (xLookup P (hv H) t (ev x) (ev i) ok).map fun v => (v, H, n)
def eMapSet (t : TypeId) (m k v : Operand) : EffK := fun P _ ev H n _ => xMapSet P H n t (ev m) (ev k) (ev v)
def eCall (c : Call) : EffK := fun P C ev H n ty => xCallEff P C ev H n c ty
def eConv (s d : TypeId) (x : Operand) : EffK := fun P _ ev H n _ => match xConv P s d (ev x) with
  | some v => some (v, H, n)
  | none => (xConvPtr P (hv H) s d (ev x)).map fun v => (v, H, n)
def eBin (op : BinOp) (t : TypeId) (x y : Operand) : EffK := fun P _ ev H n _ => match xBin P op t x y (ev x) (ev y) with
  | some v => some (v, H, n)
  | none => (xPtrEq P op t (ev x) (ev y)).map fun v => (v, H, n)
def eNone : EffK := fun _ _ _ _ _ _ => none
def yEff (P : Program) (C : Cal) (ev : Operand → AV) (H : Hp) (n : Nat) (o : Oper) : Option (AV × Hp × Nat) :=
  (match o.op with
  | .move x => ePure (pMove x)
  | .assign x => ePure (pMove x)
  | .pick c a b => ePure (pPick c a b)
  | .build t ps => ePure (pBuild t ps)
  | .nilCheck x => ePure (pNil x)
  | .binOp op t x y _ => eBin op t x y
  | .unOp op _ x => ePure (pUn op x)
  | .convert s d x => eConv s d x
  | .makeInterface t x => ePure (pMkI t x)
  | .makeFunc fn f c => ePure (pMkF fn f c)
  | .slice t x lo hi mx => ePure (pSlice t x lo hi mx)
  | .fieldAddr s x f => ePure (pFieldAddr s x f)
  | .field s x f => ePure (pField s x f)
  | .indexAddr t x i => ePure (pIndexAddr t x i)
  | .index t x i => ePure (pIndex t x i)
  | .extract x i => ePure (pExtract x i)
  | .typeAssert x _ t ok => ePure (pAssert x t ok)
  | .call c => eCall c
  | .load t x => eLoad t x
  | .alloc t => eAlloc t
  | .box t x => eBox t x
  | .buildSlice t len ps => eBuildSlice t len ps
  | .store t x v => eStore t x v
  | .makeSlice t l c => eMakeSlice t l c
  | .makeMap t r => eMakeMap t r
  | .lookup t x i ok => eLookup t x i ok
  | .mapUpdate t m k v => eMapSet t m k v
  | .insert t m k v => eMapSet t m k v
  | _ => eNone) P C ev H n o.type
theorem ePure_eq (k : PureK) (P : Program) (C : Cal) (ev : Operand → AV) (H : Hp) (n : Nat) (ty : TypeId) : ePure k P C ev H n ty = (k P ev ty).map fun v => (v, H, n) := by
  unfold ePure
  cases k P ev ty <;> rfl
theorem eLoad_eq (t : TypeId) (x : Operand) (P : Program) (C : Cal) (ev : Operand → AV) (H : Hp) (n : Nat) (ty : TypeId) : eLoad t x P C ev H n ty = (xLoad P (hv H) t (ev x)).map fun v => (v, H, n) := by
  unfold eLoad
  cases xLoad P (hv H) t (ev x) <;> rfl
theorem yEff_eq (P : Program) (C : Cal) (ev : Operand → AV) (H : Hp) (n : Nat) (o : Oper) : yEff P C ev H n o = xEff P C ev H n o := by
  obtain ⟨dst, op, type, pos, after, guard⟩ := o
  cases op <;> first | rfl | (simp only [yEff, ePure_eq, eLoad_eq]; rfl)
def lNone : Option (TypeId × Operand) := none
def lSome (t : TypeId) (x : Operand) : Option (TypeId × Operand) := some (t, x)
def loadOf (o : Oper) : Option (TypeId × Operand) :=
  match o.op with
  | .load t x => lSome t x
  | _ => lNone
theorem loadOf_some {o : Oper} {t : TypeId} {x : Operand} (h : loadOf o = some (t, x)) : o.op = .load t x := by
  unfold loadOf at h
  split at h
  · rename_i t' x' ho
    cases h
    exact ho
  · cases h
end
end Cx
end Go.Proofs.YtcpkihikmpkdnaaGreatDoor
