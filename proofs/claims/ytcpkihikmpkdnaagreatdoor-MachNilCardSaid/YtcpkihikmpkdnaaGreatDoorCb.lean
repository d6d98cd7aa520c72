/- A verified executor of closed calls, part 2: operations that make no memory. -/
import Derived.Test.YtcpkihikmpkdnaaGreatDoorCa
set_option linter.unusedVariables false
set_option linter.unusedSimpArgs false
namespace Go.Proofs.YtcpkihikmpkdnaaGreatDoor
namespace Cx
noncomputable section
/-- what a computation yields that asks nothing of the world -/
def quick {α : Type} (P : Program) : Sem α → Option α
  | .pure a => some a
  | .program k => quick P (k P)
  | _ => none
theorem quick_run {α : Type} {P : Program} : ∀ {s : Sem α} {a : α}, quick P s = some a → ∀ w, s.run P w = .ok a w
  | .pure b, a, h, w => by simp only [quick, Option.some.injEq] at h; subst h; rfl
  | .program k, a, h, w => by simp only [quick] at h; simp only [Sem.run]; exact quick_run h w
  | .load .., a, h, w => by simp [quick] at h
  | .store .., a, h, w => by simp [quick] at h
  | .new .., a, h, w => by simp [quick] at h
  | .shape .., a, h, w => by simp [quick] at h
  | .freeze .., a, h, w => by simp [quick] at h
  | .frozen .., a, h, w => by simp [quick] at h
  | .getObj .., a, h, w => by simp [quick] at h
  | .setObj .., a, h, w => by simp [quick] at h
  | .choose .., a, h, w => by simp [quick] at h
  | .sys .., a, h, w => by simp [quick] at h
  | .mark .., a, h, w => by simp [quick] at h
  | .halt .., a, h, w => by simp [quick] at h
def takeN {α : Type} : Nat → List α → Option (List α)
  | 0, _ => some []
  | _ + 1, [] => none
  | n + 1, x :: l => (takeN n l).map (x :: ·)
theorem takeN_eq {α : Type} : ∀ {n : Nat} {l r : List α}, takeN n l = some r → n ≤ l.length ∧ r = l.take n
  | 0, l, r, h => by simp only [takeN, Option.some.injEq] at h; subst h; simp
  | n + 1, [], r, h => by simp [takeN] at h
  | n + 1, x :: l, r, h => by
    simp only [takeN, Option.map_eq_some_iff] at h
    obtain ⟨r', h', rfl⟩ := h
    obtain ⟨h1, rfl⟩ := takeN_eq h'
    simp; omega
def aSize (P : Program) (t : TypeId) : Option Nat := (P.info? t).map (·.size)
def isAggD : TypeDesc → Bool
  | .struct _ => true
  | .array _ _ => true
  | _ => false
def aAgg (P : Program) (t : TypeId) : Option Bool := (P.underlying t).map isAggD
theorem run_size {P : Program} {t n : Nat} (h : aSize P t = some n) (w : World) : (sizeOf t).run P w = .ok n w := by
  obtain ⟨i, hi, rfl⟩ := Option.map_eq_some_iff.1 h
  simp [sizeOf, typeInfo, hi]
theorem run_agg {P : Program} {t : Nat} {b : Bool} (h : aAgg P t = some b) (w : World) : (isAgg t).run P w = .ok b w := by
  obtain ⟨d, hd, rfl⟩ := Option.map_eq_some_iff.1 h
  cases d <;> simp [isAgg, run_underlying hd, isAggD]
/-- a value's cells -/
def AV.cells : AV → List AV
  | .agg l => l
  | v => [v]
def litAgg : Value → AV
  | .agg cs => .agg (cs.toList.map .lit)
  | v => .lit v
theorem conc_litAgg (ρ : Env) (v : Value) : (litAgg v).conc ρ = v := by
  cases v <;> simp [litAgg, AV.conc, concs_map, Function.comp_def]
theorem wf_litAgg (ρ : Env) (n : Nat) (v : Value) : (litAgg v).wf ρ n := by
  cases v <;> simp [litAgg, AV.wf, wfs_iff]
def litFree : Value → Bool
  | .agg _ => false
  | _ => true
/-- no literal that is an aggregate -/
def AV.plain : AV → Bool
  | .lit (.agg _) => false
  | _ => true
theorem conc_cells (ρ : Env) {v : AV} (h : v.plain = true) : (v.conc ρ).cells = ⟨(v.cells).map (AV.conc ρ)⟩ := by
  cases v with
  | lit v => cases v <;> first | rfl | (simp [AV.plain] at h)
  | agg l => simp [AV.conc, AV.cells, Value.cells, concs_map]
  | _ => rfl
theorem wf_cells {ρ : Env} {n : Nat} {v : AV} (h : v.wf ρ n) : AV.wfs ρ n v.cells := by
  cases v with
  | agg l => exact h
  | _ => simpa [AV.cells, AV.wfs] using h
/-- a part of some cells -/
def xPart (P : Program) (t : TypeId) (l : List AV) (off : Nat) : Option AV :=
  match aAgg P t with
  | some true => match aSize P t with
    | some n => (takeN n (l.drop off)).map .agg
    | none => none
  | some false => l[off]?
  | none => none
theorem xPart_ok {P : Program} {ρ : Env} {n : Nat} {t : TypeId} {l : List AV} {off : Nat} {v : AV} (hl : AV.wfs ρ n l) (h : xPart P t l off = some v) :
    (∀ w, (part t ⟨l.map (AV.conc ρ)⟩ off).run P w = .ok (v.conc ρ) w) ∧ v.wf ρ n := by
  unfold xPart at h
  have hl' := (wfs_iff ρ n l).1 hl
  split at h
  · rename_i ha
    split at h
    · rename_i k hk
      obtain ⟨r, hr, rfl⟩ := Option.map_eq_some_iff.1 h
      obtain ⟨h1, rfl⟩ := takeN_eq hr
      refine ⟨fun w => ?_, (wfs_iff ρ n _).2 fun v hv => hl' v (List.mem_of_mem_drop (List.mem_of_mem_take hv))⟩
      simp only [part, Sem.run_bind, run_agg ha, Result.andThen_ok, if_true, run_size hk, AV.conc, concs_map]
      show Result.ok _ w = _
      congr 2
      apply Array.ext'
      simp [List.take_drop, Nat.add_comm]
    · cases h
  · rename_i ha
    refine ⟨fun w => ?_, hl' v (List.mem_of_getElem? h)⟩
    simp [part, run_agg ha, h]
  · cases h
/-! ### literals, nil -/
def isNil : Value → Bool
  | .pointer none | .slice none _ _ | .map none | .nilFunc | .nilIface => true
  | _ => false
def nilEq (P : Program) (t : TypeId) : AV → Value → Option Bool
  | .ptr _ _, .pointer none => match P.underlying t with
    | some (.pointer _) => some false
    | _ => none
  | .slc .., .slice none _ _ => match P.underlying t with
    | some (.slice _) => some false
    | _ => none
  | .mp _, .map none => match P.underlying t with
    | some (.map _ _) => some false
    | _ => none
  | .fn .., .nilFunc => match P.underlying t with
    | some (.func ..) => some false
    | _ => none
  | .ifc .., .nilIface => match P.underlying t with
    | some (.interface _) => some false
    | _ => none
  | _, _ => none
theorem nilEq_ok {P : Program} {ρ : Env} {t : TypeId} {x : AV} {y : Value} {b : Bool} (h : nilEq P t x y = some b) (w : World) :
    (Op.equal t (x.conc ρ) y).run P w = .ok b w ∧ (Op.equal t y (x.conc ρ)).run P w = .ok b w := by
  unfold nilEq at h
  split at h <;> (try cases h) <;>
    (split at h <;> (try cases h)) <;> rename_i hu <;>
    (have e : ∀ x y, Op.equal t x y = Op.equalIn (9999 + 1) t x y := fun _ _ => rfl
     simp only [e]
     generalize 9999 = d
     simp [Op.equalIn, run_underlying hu, AV.conc])
def nil2 (P : Program) (t : TypeId) : AV → AV → Option Bool
  | x, .lit v => nilEq P t x v
  | .lit v, x => nilEq P t x v
  | _, _ => none
theorem nil2_ok {P : Program} {ρ : Env} {t : TypeId} {x y : AV} {b : Bool} (h : nil2 P t x y = some b) (w : World) :
    (Op.equal t (x.conc ρ) (y.conc ρ)).run P w = .ok b w := by
  unfold nil2 at h
  split at h
  · exact (nilEq_ok h w).1
  · exact (nilEq_ok h w).2
  · cases h
def xBin (P : Program) (op : BinOp) (t : TypeId) (xo yo : Operand) (x y : AV) : Option AV :=
  match x, y with
  | .lit u, .lit v => (quick P (do eqGuard op t xo yo u v; binOp op t u v)).map litAgg
  | x, y => match op with
    | .eql => (nil2 P t x y).map fun b => .lit (.bool b)
    | .neq => (nil2 P t x y).map fun b => .lit (.bool (!b))
    | _ => none
def xUn (P : Program) (op : UnOp) : AV → Option AV
  | .lit u => (quick P (Op.unary op u)).map litAgg
  | _ => none
def xConv (P : Program) (src dst : TypeId) : AV → Option AV
  | .lit u => (quick P (convert src dst u)).map litAgg
  | _ => none
def xNil : AV → Option AV
  | .lit v => match v with
    | .pointer none | .nilIface | .nilFunc => none
    | .func (.func f) xs ys => some (.lit (.func (.func f) xs ys))
    | .func .. => none
    | v => some (.lit v)
  | .fn (.func f) xs ys => some (.fn (.func f) xs ys)
  | .fn .. => none
  | v => some v
theorem xNil_ok {P : Program} {ρ : Env} {n : Nat} {x v : AV} (hx : x.wf ρ n) (h : xNil x = some v) {o : Oper} {a : Act} {xo : Operand} (ho : o.op = .nilCheck xo) (ha : a.eval xo = x.conc ρ) (w : World) :
    (execOp a.eval o).run P w = .ok (.value (v.conc ρ)) w ∧ v.wf ρ n := by
  simp only [execOp, ho, ha]
  cases x with
  | lit u =>
    cases u with
    | pointer p => cases p <;> simp [xNil] at h; subst h; exact ⟨by simp [AV.conc], hx⟩
    | func f xs ys => cases f <;> simp [xNil] at h; subst h; exact ⟨by simp [AV.conc], hx⟩
    | nilIface => simp [xNil] at h
    | nilFunc => simp [xNil] at h
    | _ => simp [xNil] at h; subst h; exact ⟨by simp [AV.conc], hx⟩
  | fn f xs ys => cases f <;> simp [xNil] at h; subst h; exact ⟨by simp [AV.conc], hx⟩
  | _ => simp [xNil] at h; subst h; exact ⟨by simp [AV.conc], hx⟩
def structOf (P : Program) (t : TypeId) (f : Nat) : Option Field :=
  match P.underlying t with
  | some (.struct fs) => fs[f]?
  | _ => none
def xFieldAddr (P : Program) (s : TypeId) (x : AV) (f : Nat) : Option AV :=
  match structOf P s f with
  | none => none
  | some fl => match x, aSize P fl.type with
    | .ptr b o, some (_ + 1) => some (.ptr b (o + fl.offset))
    | _, _ => none
theorem add_off (b o k : Nat) : (⟨b, o, none⟩ : Addr).add k = ⟨b, o + k, none⟩ := by unfold Addr.add; split <;> simp_all
theorem xFieldAddr_ok {P : Program} {ρ : Env} {n : Nat} {s : TypeId} {x v : AV} {f : Nat} (hx : x.wf ρ n) (h : xFieldAddr P s x f = some v) (w : World) :
    (Instr.fieldAt s (x.conc ρ) f).run P w = .ok (v.conc ρ) w ∧ v.wf ρ n := by
  unfold xFieldAddr structOf at h
  split at h
  · cases h
  · rename_i fl hfl
    split at hfl
    · rename_i fs hs
      split at h
      · rename_i b o k hk
        cases h
        refine ⟨?_, hx⟩
        simp [Instr.fieldAt, run_underlying hs, hfl, AV.conc, Instr.sureAddr, fieldPlace, run_size hk, add_off, Nat.add_assoc]
      · cases h
    · cases hfl
def xField (P : Program) (s : TypeId) (x : AV) (f : Nat) : Option AV :=
  match structOf P s f with
  | none => none
  | some fl => match x with
    | .agg l => xPart P fl.type l fl.offset
    | _ => none
theorem xField_ok {P : Program} {ρ : Env} {n : Nat} {s : TypeId} {x v : AV} {f : Nat} (hx : x.wf ρ n) (h : xField P s x f = some v) (w : World) :
    (Instr.field s (x.conc ρ) f).run P w = .ok (v.conc ρ) w ∧ v.wf ρ n := by
  unfold xField structOf at h
  split at h
  · cases h
  · rename_i fl hfl
    split at hfl
    · rename_i fs hs
      split at h
      · rename_i l
        obtain ⟨h1, h2⟩ := xPart_ok (ρ := ρ) (n := n) hx h
        refine ⟨?_, h2⟩
        simp [Instr.field, run_underlying hs, hfl, AV.conc, asAgg, concs_map, h1]
      · cases h
    · cases hfl
/-- an index that is in range -/
def inRange (i : AV) (n : Nat) : Option Nat :=
  match i with
  | .lit (.int _ k) => match k with
    | .ofNat k => bif Nat.blt k n then some k else none
    | .negSucc _ => none
  | _ => none
theorem inRange_eq {i : AV} {n k : Nat} (h : inRange i n = some k) : ∃ kd, i = .lit (.int kd (k : Int)) ∧ k < n := by
  unfold inRange at h
  split at h
  · rename_i kd k'
    split at h
    · rename_i k0
      by_cases hb : Nat.blt k0 n = true
      · rw [hb] at h
        cases h
        exact ⟨kd, rfl, by simpa [Nat.blt_eq] using hb⟩
      · rw [Bool.eq_false_iff.2 hb] at h; cases h
    · cases h
  · cases h
def xIndexAddr (P : Program) (t : TypeId) (x i : AV) : Option AV :=
  match P.underlying t, x with
  | some (.slice e), .slc b o o' _ len _ => match inRange i len, aSize P e with
    | some k, some s => bif o.beq o' then some (.ptr b (o + k * s)) else none
    | _, _ => none
  | some (.array len e), .ptr b o => match inRange i len, aSize P e with
    | some k, some s => some (.ptr b (o + k * s))
    | _, _ => none
  | _, _ => none
theorem xIndexAddr_ok {P : Program} {ρ : Env} {n : Nat} {t : TypeId} {x i v : AV} (hx : x.wf ρ n) (h : xIndexAddr P t x i = some v) (w : World) :
    (Instr.indexAt t (x.conc ρ) (i.conc ρ)).run P w = .ok (v.conc ρ) w ∧ v.wf ρ n := by
  unfold xIndexAddr at h
  split at h
  · rename_i e b o o' j len c hu
    split at h
    · rename_i k s hk hs
      obtain ⟨kd, rfl, hlt⟩ := inRange_eq hk
      by_cases ho : o.beq o' = true
      · have ho' := Nat.eq_of_beq_eq_true ho
        subst ho'
        rw [ho] at h
        cases h
        refine ⟨?_, hx.1⟩
        simp [Instr.indexAt, run_underlying hu, AV.conc, asIntOf, hlt, run_size hs, add_off, Nat.add_assoc]
      · rw [Bool.eq_false_iff.2 ho] at h; cases h
    · cases h
  · rename_i len e b o hu
    split at h
    · rename_i k s hk hs
      obtain ⟨kd, rfl, hlt⟩ := inRange_eq hk
      cases h
      refine ⟨?_, hx⟩
      simp [Instr.indexAt, run_underlying hu, AV.conc, asIntOf, Instr.sureAddr, hlt, run_size hs, add_off, Nat.add_assoc]
    · cases h
  · cases h
def xIndex (P : Program) (t : TypeId) (x i : AV) : Option AV :=
  match x, i with
  | .lit u, .lit v => (quick P (Instr.index t u v)).map litAgg
  | .agg l, i => match P.underlying t with
    | some (.array len e) => match inRange i len, aSize P e with
      | some k, some s => xPart P e l (k * s)
      | _, _ => none
    | _ => none
  | _, _ => none
theorem xIndex_ok {P : Program} {ρ : Env} {n : Nat} {t : TypeId} {x i v : AV} (hx : x.wf ρ n) (h : xIndex P t x i = some v) (w : World) :
    (Instr.index t (x.conc ρ) (i.conc ρ)).run P w = .ok (v.conc ρ) w ∧ v.wf ρ n := by
  unfold xIndex at h
  split at h
  · obtain ⟨u, hu, rfl⟩ := Option.map_eq_some_iff.1 h
    rw [conc_litAgg]
    exact ⟨quick_run hu w, wf_litAgg _ _ _⟩
  · split at h
    · rename_i len e hu
      split at h
      · rename_i k s hk hs
        obtain ⟨kd, rfl, hlt⟩ := inRange_eq hk
        obtain ⟨h1, h2⟩ := xPart_ok (ρ := ρ) (n := n) hx h
        refine ⟨?_, h2⟩
        simp [Instr.index, run_underlying hu, AV.conc, asIntOf, hlt, run_size hs, concs_map, h1]
      · cases h
    · cases h
  · cases h
def xExtract : AV → Nat → Option AV
  | .tup l, i => l[i]?
  | _, _ => none
theorem xExtract_ok {P : Program} {ρ : Env} {n : Nat} {x v : AV} {i : Nat} (hx : x.wf ρ n) (h : xExtract x i = some v) (w : World) :
    (Instr.extract (x.conc ρ) i).run P w = .ok (v.conc ρ) w ∧ v.wf ρ n := by
  unfold xExtract at h
  split at h
  · rename_i l
    refine ⟨?_, (wfs_iff ρ n l).1 hx v (List.mem_of_getElem? h)⟩
    simp [Instr.extract, AV.conc, concs_map, h]
  · cases h
end
end Cx
end Go.Proofs.YtcpkihikmpkdnaaGreatDoor
