/- A verified executor of closed calls, part 4: all operations that make no memory and read none; loads; look-ups. -/
import Derived.Test.YtcpkihikmpkdnaaGreatDoorCc
set_option linter.unusedVariables false
set_option linter.unusedSimpArgs false
namespace Go.Proofs.YtcpkihikmpkdnaaGreatDoor
namespace Cx
noncomputable section
def xMkI (P : Program) (t : TypeId) (x : AV) : Option AV :=
  match P.underlying t with
  | some (.interface _) => none
  | some _ => some (.ifc t x)
  | none => none
theorem xMkI_ok {P : Program} {ρ : Env} {n : Nat} {t : TypeId} {x v : AV} (hx : x.wf ρ n) (h : xMkI P t x = some v) (w : World) :
    (Instr.makeInterface t (x.conc ρ)).run P w = .ok (v.conc ρ) w ∧ v.wf ρ n := by
  unfold xMkI at h
  split at h
  · cases h
  · rename_i d hd hu
    cases h
    refine ⟨?_, hx⟩
    cases d <;> first | (simp [Instr.makeInterface, run_underlying hu, AV.conc]; done) | exact (hd _ rfl).elim
  · cases h
def allLits : List AV → Option (List Value)
  | [] => some []
  | .lit v :: l => (allLits l).map (v :: ·)
  | _ => none
theorem allLits_eq {ρ : Env} : ∀ {l : List AV} {r : List Value}, allLits l = some r → l.map (AV.conc ρ) = r
  | [], r, h => by simp only [allLits, Option.some.injEq] at h; subst h; rfl
  | .lit v :: l, r, h => by
    simp only [allLits, Option.map_eq_some_iff] at h
    obtain ⟨r', h', rfl⟩ := h
    simp [allLits_eq (ρ := ρ) h', AV.conc]
  | .ptr .. :: l, r, h => by simp [allLits] at h
  | .slc .. :: l, r, h => by simp [allLits] at h
  | .mp .. :: l, r, h => by simp [allLits] at h
  | .agg .. :: l, r, h => by simp [allLits] at h
  | .tup .. :: l, r, h => by simp [allLits] at h
  | .ifc .. :: l, r, h => by simp [allLits] at h
  | .fn .. :: l, r, h => by simp [allLits] at h
  | .yld .. :: l, r, h => by simp [allLits] at h
  | .mrk .. :: l, r, h => by simp [allLits] at h
def nextVal : Next → Option AV
  | .value v => some (litAgg v)
  | _ => none
def xSlcBuiltin (P : Program) (b : Builtin) (t : Option TypeId) (len : Nat) (c : Option Nat) : Option AV :=
  match t with
  | none => none
  | some t => match P.underlying t with
    | some (.slice _) => match b, c with
      | .len, _ => some (.lit (.int .i64 (Int.ofNat len)))
      | .cap, some k => some (.lit (.int .i64 (Int.ofNat k)))
      | _, _ => none
    | _ => none
def xBuiltin (P : Program) (b : Builtin) (ts : Array TypeId) (ty : TypeId) (cs : Array Bool) (args : List AV) : Option AV :=
  match args with
  | .slc _ _ _ _ len c :: _ => xSlcBuiltin P b ts[0]? len c
  | args => match allLits args with
    | some vs => match quick P (builtin b ts ty cs ⟨vs⟩) with
      | some r => nextVal r
      | none => none
    | none => none
theorem xBuiltin_ok {P : Program} {ρ : Env} {n : Nat} {b : Builtin} {ts : Array TypeId} {ty : TypeId} {cs : Array Bool} {args : List AV} {v : AV} (h : xBuiltin P b ts ty cs args = some v) (w : World) :
    (builtin b ts ty cs ⟨args.map (AV.conc ρ)⟩).run P w = .ok (.value (v.conc ρ)) w ∧ v.wf ρ n := by
  unfold xBuiltin at h
  split at h
  · rename_i b' o o' j len c rest
    unfold xSlcBuiltin at h
    split at h
    · cases h
    · rename_i t ht
      split at h
      · rename_i e hu
        split at h
        · cases h
          refine ⟨?_, trivial⟩
          simp [builtin, Builtin.len_, ht, run_underlying hu, AV.conc, goInt]
        · rename_i k
          cases h
          refine ⟨?_, trivial⟩
          simp [builtin, Builtin.cap_, ht, run_underlying hu, AV.conc, capOf, goInt]
        · cases h
      · cases h
  · split at h
    · rename_i vs hvs
      split at h
      · rename_i r hr
        rw [allLits_eq hvs]
        unfold nextVal at h
        split at h
        · cases h
          rw [conc_litAgg]
          exact ⟨quick_run hr w, wf_litAgg _ _ _⟩
        · cases h
      · cases h
    · cases h
def xAssert (P : Program) (t : TypeId) (ok : Bool) (x : AV) : Option AV :=
  match x with
  | .ifc u v => match P.underlying t with
    | some (.interface _) => none
    | some _ => bif u.beq t then some (bif ok then .tup [v, .lit (.bool true)] else v) else none
    | none => none
  | _ => none
theorem xAssert_ok {P : Program} {ρ : Env} {n : Nat} {t xt : TypeId} {ok : Bool} {x v : AV} (hx : x.wf ρ n) (h : xAssert P t ok x = some v) (w : World) :
    (Instr.typeAssert (x.conc ρ) xt t ok).run P w = .ok (v.conc ρ) w ∧ v.wf ρ n := by
  unfold xAssert at h
  split at h
  · rename_i u v'
    split at h
    · cases h
    · rename_i d hd hu
      cases hb : u.beq t with
      | false => rw [hb] at h; cases h
      | true =>
        rw [hb] at h
        have := Nat.eq_of_beq_eq_true hb
        subst this
        cases ok
        · cases h
          refine ⟨?_, hx⟩
          cases d <;> first | (simp [Instr.typeAssert, run_underlying hu, AV.conc]; done) | exact (hd _ rfl).elim
        · cases h
          refine ⟨?_, show AV.wf ρ n (.tup [v', .lit (.bool true)]) from by (simp only [AV.wf, AV.wfs]; exact ⟨hx, trivial, trivial⟩)⟩
          show _ = Result.ok (AV.conc ρ (.tup [v', .lit (.bool true)])) w
          cases d <;> first | (simp [Instr.typeAssert, run_underlying hu, AV.conc, AV.concs]; done) | exact (hd _ rfl).elim
    · cases h
  · cases h
def xPick (c a b : AV) : Option AV :=
  match c with
  | .lit (.bool t) => some (bif t then a else b)
  | _ => none
def xCallPure (P : Program) (c : Call) (ty : TypeId) (ev : Operand → AV) : Option AV :=
  match c.callee with
  | .builtin b => xBuiltin P b c.argTypes ty (c.args.map fun | .const _ => true | _ => false) (c.args.toList.map ev)
  | _ => none
def xPure (P : Program) (ev : Operand → AV) (o : Oper) : Option AV :=
  match o.op with
  | .move x => some (ev x)
  | .assign x => some (ev x)
  | .pick c a b => xPick (ev c) (ev a) (ev b)
  | .build t ps => xBuild P t (ps.toList.map fun p => (p.1, ev p.2))
  | .nilCheck x => xNil (ev x)
  | .binOp op t x y _ => xBin P op t x y (ev x) (ev y)
  | .unOp op _ x => xUn P op (ev x)
  | .convert s d x => xConv P s d (ev x)
  | .makeInterface t x => xMkI P t (ev x)
  | .makeFunc fn f c => some (.fn fn (f.toList.map ev) (c.toList.map ev))
  | .slice t x lo hi mx => xSliceAt P t (ev x) (lo.map ev) (hi.map ev) (mx.map ev)
  | .fieldAddr s x f => xFieldAddr P s (ev x) f
  | .field s x f => xField P s (ev x) f
  | .indexAddr t x i => xIndexAddr P t (ev x) (ev i)
  | .index t x i => xIndex P t (ev x) (ev i)
  | .extract x i => xExtract (ev x) i
  | .typeAssert x _ t ok => xAssert P t ok (ev x)
  | .call c => xCallPure P c o.type ev
  | _ => none
theorem map_ev {ρ : Env} {a : Act} {ev : Operand → AV} (he : ∀ x, a.eval x = (ev x).conc ρ) (xs : Array Operand) : xs.map a.eval = ⟨(xs.toList.map ev).map (AV.conc ρ)⟩ := by
  apply Array.ext'
  simp [he, Function.comp_def]
theorem opt_ev {ρ : Env} {a : Act} {ev : Operand → AV} (he : ∀ x, a.eval x = (ev x).conc ρ) (x : Option Operand) : x.map a.eval = (x.map ev).map (AV.conc ρ) := by
  cases x <;> simp [he]
theorem parts_ev {ρ : Env} {a : Act} {ev : Operand → AV} (he : ∀ x, a.eval x = (ev x).conc ρ) (ps : Array (Nat × Operand)) :
    (ps.map fun (i, x) => (i, a.eval x)) = ⟨(ps.toList.map fun p => (p.1, ev p.2)).map fun p => (p.1, p.2.conc ρ)⟩ := by
  apply Array.ext'
  simp [he, Function.comp_def]
theorem nil2_cases {P : Program} {t : TypeId} {x y : AV} {b : Bool} (h : nil2 P t x y = some b) : (∃ l, y = .lit l ∧ nilEq P t x l = some b) ∨ (∃ l, x = .lit l ∧ nilEq P t y l = some b) := by
  cases y with
  | lit l => exact .inl ⟨l, rfl, h⟩
  | _ =>
    cases x with
    | lit l => exact .inr ⟨l, rfl, h⟩
    | _ => simp [nil2] at h
theorem nilEq_guard {P : Program} {ρ : Env} {t : TypeId} {s : AV} {l : Value} {b : Bool} (hb : nilEq P t s l = some b) (op : BinOp) (x y : Operand) (w : World) :
    (eqGuard op t x y (s.conc ρ) l).run P w = .ok () w ∧ (eqGuard op t x y l (s.conc ρ)).run P w = .ok () w := by
  unfold nilEq at hb
  split at hb <;> (try cases hb) <;> (by_cases ho : (!(op matches .eql | .neq)) = true <;> simp [eqGuard, AV.conc, rp])
theorem nilEq_bin {P : Program} {ρ : Env} {t : TypeId} {s : AV} {l : Value} {b : Bool} (hb : nilEq P t s l = some b) (w : World) :
    (binOp .eql t (s.conc ρ) l).run P w = .ok (.bool b) w ∧ (binOp .eql t l (s.conc ρ)).run P w = .ok (.bool b) w ∧
    (binOp .neq t (s.conc ρ) l).run P w = .ok (.bool (!b)) w ∧ (binOp .neq t l (s.conc ρ)).run P w = .ok (.bool (!b)) w := by
  obtain ⟨h1, h2⟩ := nilEq_ok (ρ := ρ) hb w
  unfold nilEq at hb
  split at hb <;> (try cases hb) <;> simp only [AV.conc] at h1 h2 ⊢ <;> simp [binOp, h1, h2]
theorem xPure_ok {P : Program} {ρ : Env} {n : Nat} {ev : Operand → AV} {a : Act} {o : Oper} {v : AV} (he : ∀ x, a.eval x = (ev x).conc ρ) (hw : ∀ x, (ev x).wf ρ n) (h : xPure P ev o = some v) :
    (∀ w, (execOp a.eval o).run P w = .ok (.value (v.conc ρ)) w) ∧ v.wf ρ n := by
  unfold xPure at h
  split at h
  · rename_i x ho
    cases h
    exact ⟨fun w => by simp [execOp, ho, he], hw x⟩
  · rename_i x ho
    cases h
    exact ⟨fun w => by simp [execOp, ho, he], hw x⟩
  · rename_i c x y ho
    unfold xPick at h
    split at h
    · rename_i t hc
      cases h
      refine ⟨fun w => ?_, by cases t <;> first | exact hw x | exact hw y⟩
      have hc' : a.eval c = .bool t := by rw [he, hc]; rfl
      cases t <;> simp [execOp, ho, hc', asBool, he]
    · cases h
  · rename_i t ps ho
    have hb := fun w => xBuild_ok (ρ := ρ) (n := n) (fun p hp => by obtain ⟨q, hq, rfl⟩ := List.mem_map.1 hp; exact hw q.2) h w
    refine ⟨fun w => ?_, (hb default).2⟩
    simp only [execOp, ho, parts_ev he, Sem.run_bind, (hb w).1, Result.andThen_ok, rp]
  · rename_i x ho
    exact ⟨fun w => (xNil_ok (hw x) h ho (he x) w).1, (xNil_ok (P := P) (hw x) h ho (he x) default).2⟩
  · rename_i op t x y yt ho
    unfold xBin at h
    split at h
    · rename_i u v' hx hy
      obtain ⟨r, hr, rfl⟩ := Option.map_eq_some_iff.1 h
      refine ⟨fun w => ?_, wf_litAgg _ _ _⟩
      have hx' : a.eval x = u := by rw [he, hx]; rfl
      have hy' : a.eval y = v' := by rw [he, hy]; rfl
      rw [conc_litAgg]
      simp only [execOp, ho, hx', hy', Sem.run_bind]
      have := quick_run hr w
      simp only [Sem.run_bind] at this
      rw [this]
      rfl
    · split at h
      · obtain ⟨b, hb, rfl⟩ := Option.map_eq_some_iff.1 h
        refine ⟨fun w => ?_, by simp only [AV.wf]⟩
        simp only [execOp, ho, Sem.run_bind, AV.conc]
        rw [he, he]
        rcases nil2_cases hb with ⟨l, hl, hb⟩ | ⟨l, hl, hb⟩
        · rw [hl]
          simp only [AV.conc, (nilEq_guard (ρ := ρ) hb .eql x y w).1, (nilEq_bin (ρ := ρ) hb w).1, Result.andThen_ok, rp]
        · rw [hl]
          simp only [AV.conc, (nilEq_guard (ρ := ρ) hb .eql x y w).2, (nilEq_bin (ρ := ρ) hb w).2.1, Result.andThen_ok, rp]
      · obtain ⟨b, hb, rfl⟩ := Option.map_eq_some_iff.1 h
        refine ⟨fun w => ?_, by simp only [AV.wf]⟩
        simp only [execOp, ho, Sem.run_bind, AV.conc]
        rw [he, he]
        rcases nil2_cases hb with ⟨l, hl, hb⟩ | ⟨l, hl, hb⟩
        · rw [hl]
          simp only [AV.conc, (nilEq_guard (ρ := ρ) hb .neq x y w).1, (nilEq_bin (ρ := ρ) hb w).2.2.1, Result.andThen_ok, rp]
        · rw [hl]
          simp only [AV.conc, (nilEq_guard (ρ := ρ) hb .neq x y w).2, (nilEq_bin (ρ := ρ) hb w).2.2.2, Result.andThen_ok, rp]
      · cases h
  · rename_i op t x ho
    unfold xUn at h
    split at h
    · rename_i u hx
      obtain ⟨r, hr, rfl⟩ := Option.map_eq_some_iff.1 h
      refine ⟨fun w => ?_, wf_litAgg _ _ _⟩
      have hx' : a.eval x = u := by rw [he, hx]; rfl
      rw [conc_litAgg]
      simp only [execOp, ho, hx', Sem.run_bind, quick_run hr w, Result.andThen_ok, rp]
    · cases h
  · rename_i s d x ho
    unfold xConv at h
    split at h
    · rename_i u hx
      obtain ⟨r, hr, rfl⟩ := Option.map_eq_some_iff.1 h
      refine ⟨fun w => ?_, wf_litAgg _ _ _⟩
      have hx' : a.eval x = u := by rw [he, hx]; rfl
      rw [conc_litAgg]
      simp only [execOp, ho, hx', Sem.run_bind, quick_run hr w, Result.andThen_ok, rp]
    · cases h
  · rename_i t x ho
    refine ⟨fun w => ?_, (xMkI_ok (hw x) h default).2⟩
    simp only [execOp, ho, he, Sem.run_bind, (xMkI_ok (hw x) h w).1, Result.andThen_ok, rp]
  · rename_i fn f c ho
    cases h
    refine ⟨fun w => ?_, by simp only [AV.wf]; exact ⟨(wfs_iff ρ n _).2 (fun v hv => by obtain ⟨q, _, rfl⟩ := List.mem_map.1 hv; exact hw q), (wfs_iff ρ n _).2 (fun v hv => by obtain ⟨q, _, rfl⟩ := List.mem_map.1 hv; exact hw q)⟩⟩
    simp only [execOp, ho, map_ev he, Instr.makeFunc, Sem.run_bind, rp, Result.andThen_ok, AV.conc, concs_map]
  · rename_i t x lo hi mx ho
    refine ⟨fun w => ?_, (xSliceAt_ok (hw x) h default).2⟩
    simp only [execOp, ho, opt_ev he, he, Sem.run_bind, (xSliceAt_ok (hw x) h w).1, Result.andThen_ok, rp]
  · rename_i s x f ho
    refine ⟨fun w => ?_, (xFieldAddr_ok (hw x) h default).2⟩
    simp only [execOp, ho, he, Sem.run_bind, (xFieldAddr_ok (hw x) h w).1, Result.andThen_ok, rp]
  · rename_i s x f ho
    refine ⟨fun w => ?_, (xField_ok (hw x) h default).2⟩
    simp only [execOp, ho, he, Sem.run_bind, (xField_ok (hw x) h w).1, Result.andThen_ok, rp]
  · rename_i t x i ho
    refine ⟨fun w => ?_, (xIndexAddr_ok (hw x) h default).2⟩
    simp only [execOp, ho, he, Sem.run_bind, (xIndexAddr_ok (hw x) h w).1, Result.andThen_ok, rp]
  · rename_i t x i ho
    refine ⟨fun w => ?_, (xIndex_ok (hw x) h default).2⟩
    simp only [execOp, ho, he, Sem.run_bind, (xIndex_ok (hw x) h w).1, Result.andThen_ok, rp]
  · rename_i x i ho
    refine ⟨fun w => ?_, (xExtract_ok (P := P) (hw x) h default).2⟩
    simp only [execOp, ho, he, Sem.run_bind, (xExtract_ok (hw x) h w).1, Result.andThen_ok, rp]
  · rename_i x xt t ok ho
    refine ⟨fun w => ?_, (xAssert_ok (xt := xt) (hw x) h default).2⟩
    simp only [execOp, ho, he, Sem.run_bind, (xAssert_ok (hw x) h w).1, Result.andThen_ok, rp]
  · rename_i c ho
    unfold xCallPure at h
    split at h
    · rename_i b hb
      refine ⟨fun w => ?_, (xBuiltin_ok (ρ := ρ) (n := n) h default).2⟩
      simp only [execOp, ho, resolve, hb, Sem.run_bind, rp, Result.andThen_ok, invoke, map_ev he]
      exact (xBuiltin_ok (ρ := ρ) (n := n) h w).1
    · cases h
  · cases h
end
end Cx
end Go.Proofs.YtcpkihikmpkdnaaGreatDoor
