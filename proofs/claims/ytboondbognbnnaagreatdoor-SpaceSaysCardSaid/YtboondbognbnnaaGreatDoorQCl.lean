/- A verified executor of closed calls, part 12: code, calls, ranges over a function. -/
import Derived.Test.YtboondbognbnnaaGreatDoorQCE
import Derived.RangeFuncLeaves
import Derived.Conc.LoneSelectN
set_option linter.unusedVariables false
set_option linter.unusedSimpArgs false
set_option linter.unusedVariables false
set_option linter.unusedSimpArgs false
namespace Go.Proofs.YtboondbognbnnaaGreatDoor
namespace Cx
noncomputable section
/-! ### a select over a channel that is nil, with a default -/
theorem fenced_FW {ro : Option Nat} {P : Program} {m : Machine} : m.fenced P (FW ro) := by
  intro g _
  exact ⟨fun h => by simp at h, .inl trivial, fun _ _ => trivial, fun _ h => by simp at h⟩
theorem wpIn_region_sel {ro : Option Nat} {m : Nat} {P : Program} {id : Nat} {ops : Array Oper} {o : Oper} {l : List Oper} {Q : Exit → Act → World → Prop} {a : Act} {w : World} {cs' : Array CommCase}
    (hops : ops.toList = o :: l) (hg : o.guard = none) (hsel : (execOp a.eval o).run P w = .ok (.comm cs' false .select) w) (hno : ∀ c, o.op ≠ .defer c) (hw : ∀ cc ∈ cs', Conc.NoWay w cc)
    (h : wpListIn (FW ro) m P ops Q l (a.put o.dst (commResult cs' .select (-1) undef false)) w) : (Code.region id ops false).wpIn (FW ro) m P Q a w := by
  intro b k cs hro hb hr
  have hsz : ops.size = l.length + 1 := by rw [← Array.length_toList, hops]; rfl
  have h0 : ops[0]? = some o := by rw [← Array.getElem?_toList, hops]; rfl
  have hrange : List.range ops.size = 0 :: List.range' 1 l.length := by rw [List.range_eq_range', hsz, List.range'_succ]
  have hrest : wpOpsIn (FW ro) m P ops Q (List.range' 1 l.length) (a.put o.dst (commResult cs' .select (-1) undef false)) w := by
    rw [wpOpsIn_eq_wpListIn l 1 (fun j => by rw [← Array.getElem?_toList, hops, Nat.add_comm]; rfl)]
    exact h
  obtain ⟨e, a', w', q, r⟩ := wp_opsIn _ _ _ hrest b k cs hro hb hr
  refine ⟨e, a', w', q, .of_steps (.one fenced_FW stepR_region) (.of_steps (.one fenced_FW ?_) r)⟩
  rw [hrange]
  have hG := stepGR_op (P := P) (b := b) (a := a) (k := k) (cs := cs) (w := w) (rest := List.range' 1 l.length) h0 (by simp [Region.wanted, hg])
  rw [Oper.semAt_eq _ _ _ hno] at hG
  have hc : ∃ es, stepG P true (Conc.G (b.atR a (.inRegion ops (0 :: List.range' 1 l.length) :: k)) cs) w = .comm (Conc.G (b.atR a (.inRegion ops (0 :: List.range' 1 l.length) :: k)) cs) cs' false .select w es := by
    simp only [Conc.G]
    rw [hG]
    simp only [stepG.apply, if_true, Sem.runT_eq, hsel, GStep.after]
    exact ⟨_, rfl⟩
  obtain ⟨es, hc⟩ := hc
  have hs := Conc.step_lone_sel_default hc hw
  have hfin := Frame.finish_atR b a ops 0 (List.range' 1 l.length) k (commResult cs' .select (-1) undef false)
  rw [h0] at hfin
  rw [hfin] at hs
  exact hs
def xSel (P : Program) (ev : Operand → AV) (o : Oper) : Option AV :=
  match o.guard, o.op with
  | none, .select cases false => match cases.toList with
    | [s] => match s.send, ev s.chan, quick P (zeroValue s.elem) with
      | none, .lit (.chan none), some z => some (.tup [.lit (goInt (-1)), .lit (.bool false), .lit z])
      | _, _, _ => none
    | _ => none
  | _, _ => none
def xHead (P : Program) (ev : Operand → AV) : List Oper → Option (Oper × List Oper × AV)
  | [] => none
  | o :: l => match xSel P ev o with
    | some v => some (o, l, v)
    | none => none
theorem xHead_ok {P : Program} {ev : Operand → AV} {l l' : List Oper} {o : Oper} {v : AV} (h : xHead P ev l = some (o, l', v)) : l = o :: l' ∧ xSel P ev o = some v := by
  unfold xHead at h
  split at h
  · cases h
  · split at h
    · rename_i hs; cases h; exact ⟨rfl, hs⟩
    · cases h
theorem xSel_ok {P : Program} {ρ : Env} {n : Nat} {ev : Operand → AV} {a : Act} {o : Oper} {v : AV} (hev : ∀ x, a.eval x = (ev x).conc ρ) (h : xSel P ev o = some v) (w : World) :
    o.guard = none ∧ (∃ cs', (execOp a.eval o).run P w = .ok (.comm cs' false .select) w ∧ (∀ cc ∈ cs', Conc.NoWay w cc) ∧ commResult cs' .select (-1) undef false = v.conc ρ) ∧ (∀ c, o.op ≠ .defer c) ∧ v.wf ρ n := by
  unfold xSel at h
  split at h
  · rename_i cases hg hop
    split at h
    · rename_i s hcs
      split at h
      · rename_i z hsend hch hz
        cases h
        refine ⟨hg, ⟨#[{ chan := .chan none, send := none, zero := z }], ?_, ?_, ?_⟩, (fun c => by rw [hop]; exact fun e => by cases e), ?_⟩
        · have hc : cases = #[s] := Array.ext' hcs
          have hch' : a.eval s.chan = .chan none := by rw [hev, hch]; rfl
          simp only [execOp, hop, hc, Sem.run_bind, List.mapM_toArray, Array.mapM_eq_mapM_toList, List.mapM_cons, List.mapM_nil, Sem.run_map, quick_run hz w, Result.andThen_ok, rp, hsend, hch', Option.map_none]
        · intro cc hcc
          simp only [List.mem_toArray, List.mem_singleton] at hcc
          subst hcc
          exact Conc.noWay_nil none
        · simp [commResult, AV.conc, AV.concs]
        · simp [AV.wf, AV.wfs]
      · cases h
    · cases h
  · cases h
def xRegion (P : Program) (C : Cal) (G sz : Nat) (ops : Array Oper) (draw : Bool) (T : Tm) (H : Hp) (n : Nat) : Option (Tm × Hp × Nat) :=
  match draw with
  | false => match xHead P (evA G T) ops.toList with
    | some (o, l, v) => match tput T sz o.dst v with
      | some T' => xSeq P C G sz ops l T' H n
      | none => none
    | none => xSeq P C G sz ops ops.toList T H n
  | true => match planOf ops with
    | none => none
    | some p => match xPlan P C G sz ops (masks ops.toList []) H n p true [] T H n with
      | some (T', H', n', _) => some (T', H', n')
      | none => none
section
variable {P : Program} {w0 : World} {out : Nat → Prop} {G sz : Nat} {ρ : Env} {H : Hp} {n : Nat} {w : World} {T : Tm} {a : Act}
theorem xRegion_ok {ro : Option Nat} {m : Nat} {C : Cal} (hc : CalOk P G C) (hm : P.follows .mixedOrders = true) {id : Nat} {ops : Array Oper} {draw : Bool} {T' : Tm} {H' : Hp} {n' : Nat} {Q : Exit → Act → World → Prop}
    (h : xRegion P C G sz ops draw T H n = some (T', H', n')) (A : ActOk ρ n T sz a) (M : Mem w0 out G ρ (hv H) n w) (hQ : ∀ a' w', At w0 out G ρ n sz T' H' n' a' w' → Q .normal a' w') : (Code.region id ops draw).wpIn (FW ro) m P Q a w := by
  cases draw with
  | false =>
    simp only [xRegion] at h
    split at h
    · rename_i o l v hx
      split at h
      · rename_i T1 ht
        obtain ⟨h1, h2⟩ := xHead_ok hx
        obtain ⟨h3, ⟨cs', h4, h5, h6⟩, h7, h8⟩ := xSel_ok (n := n) (fun x => (A.ev M x).1) h2 w
        refine wpIn_region_sel h1 h3 h4 h7 h5 ?_
        rw [h6]
        exact xSeq_ok hc l h (A.put h8 ht) M hQ
      · cases h
    · exact wpIn_region_list (xSeq_ok hc ops.toList h A M hQ)
  | true =>
    simp only [xRegion] at h
    split at h
    · cases h
    · rename_i p hp
      split at h
      · rename_i T2 H2 n2 L hx
        cases h
        unfold planOf at hp
        cases hs : (Region.noSelect ops && noDefer ops) with
        | false => rw [hs] at hp; cases hp
        | true =>
          rw [hs] at hp
          rw [Bool.and_eq_true] at hs
          have h1 := planGo_ok hp
          have M' : Mem w0 out G ρ (hv H) n { w with drawn := w.drawn + 1 } := M.same_heap rfl
          refine wpIn_mono (wpIn_region_any hm (wpAnyIn_of_K (S := SL ρ L) (ms := masks ops.toList []) _ _ _ _ (xPlan_ok (QN := Q .normal) hc rfl hs.1 hs.2 M' (LA := L) (xPlan_wf M' hx fun _ => rfl) h1 (rep_none ops) (cnt_le ops 0) closed_none hx A M' (fun _ _ => rfl) (Nat.le_refl _) (fun _ => rfl) (fun l => by simp) hQ))) ?_
          intro e a' w' hq
          cases e <;> first | exact hq | exact hq.elim
      · cases h
end
inductive XE where
  | normal
  | exit (id : Nat)
  | ret
  | goto (l : Nat)
def XE.ex : XE → Exit
  | .normal => .normal
  | .exit id => .exit id
  | .ret => .ret
  | .goto l => .goto l
/-- a region whose last operation defers a call -/
def xDef (ev : Operand → AV) (sz : Nat) (T : Tm) (o : Oper) : Option Tm :=
  match o.guard, o.op, o.dst with
  | none, .defer c, none => match c.callee with
    | .value f => match ev f with
      | .fn (.func g) xs ys => bif Nat.blt sz 511 then some (Tr.set 9 T 510 (some (.mrk (.fn (.func g) (xs ++ c.args.toList.map ev) ys :: markL (tget T 510))))) else none
      | _ => none
    | _ => none
  | _, _, _ => none
def xSeqD (P : Program) (C : Cal) (G sz : Nat) (ops : Array Oper) : List Oper → Tm → Hp → Nat → Option (Tm × Hp × Nat)
  | [], _, _, _ => none
  | [o], T, H, n => match xDef (evA G T) sz T o with
    | some T' => some (T', H, n)
    | none => none
  | o :: o' :: l, T, H, n => match xWanted ops T o with
    | true => match yEff P C (evA G T) H n o with
      | some (v, H', n') => match tput T sz o.dst v with
        | some T' => xSeqD P C G sz ops (o' :: l) T' H' n'
        | none => none
      | none => none
    | false => none
section
variable {P : Program} {w0 : World} {out : Nat → Prop} {G sz : Nat}
theorem xSeqD_ok {m : Nat} {C : Cal} (hc : CalOk P G C) {ops : Array Oper} {Q : Exit → Act → World → Prop} : ∀ (l : List Oper) {T : Tm} {H : Hp} {n : Nat} {ρ : Env} {a : Act} {w : World} {T' : Tm} {H' : Hp} {n' : Nat},
    xSeqD P C G sz ops l T H n = some (T', H', n') → ActOk ρ n T sz a → Mem w0 out G ρ (hv H) n w → (∀ a' w', At w0 out G ρ n sz T' H' n' a' w' → Q .normal a' w') → wpListIn (FW none) m P ops Q l a w
  | [], T, H, n, ρ, a, w, T', H', n', h, A, M, hQ => by simp [xSeqD] at h
  | [o], T, H, n, ρ, a, w, T', H', n', h, A, M, hQ => by
    simp only [xSeqD] at h
    split at h
    · rename_i T1 ht
      simp only [Option.some.injEq, Prod.mk.injEq] at h
      obtain ⟨rfl, rfl, rfl⟩ := h
      unfold xDef at ht
      split at ht
      · rename_i c hg hop hdst
        split at ht
        · rename_i f hcal
          split at ht
          · rename_i g xs ys hev
            cases hsz : Nat.blt sz 511 with
            | false => rw [hsz] at ht; cases ht
            | true =>
              rw [hsz] at ht
              simp only [cond_true, Option.some.injEq] at ht
              subst ht
              have hsz : sz < 511 := by simpa [Nat.blt_eq] using hsz
              obtain ⟨h1, h2⟩ := A.ev M f
              rw [hev] at h1 h2
              simp only [AV.wf] at h2
              have hw : ∀ u ∈ xs ++ c.args.toList.map (evA G T), u.wf ρ n := fun u hu => by
                rcases List.mem_append.1 hu with hu | hu
                · exact (wfs_iff ρ n _).1 h2.1 u hu
                · obtain ⟨x, _, rfl⟩ := List.mem_map.1 hu
                  exact (A.ev M x).2
              unfold wpListIn
              rw [show Region.wanted o (yielded ops a.tmps) = true from by simp [Region.wanted, hg]]
              simp only [if_true]
              refine ⟨fun _ _ => trivial, ?_⟩
              have hargs : c.args.map a.eval = ⟨(c.args.toList.map (evA G T)).map (AV.conc ρ)⟩ := by
                apply Array.ext'
                simp only [Array.toList_map, List.map_map]
                exact List.map_congr_left fun x _ => (A.ev M x).1
              have hrun : (o.semAt (FW none).round a.eval).run P w = .ok (.defer { target := .fn (.func g) ⟨ys.map (AV.conc ρ)⟩, args := ⟨(xs ++ c.args.toList.map (evA G T)).map (AV.conc ρ)⟩ }) w := by
                show (execOp a.eval o).run P w = _
                simp only [execOp, hop, resolve, hcal, h1, AV.conc, concs_map, Deferred.ofValue, hargs]
                simp
              rw [hrun, Oper.uponIn_defer, hdst]
              have hA3 := A
              have hg' : ∀ t, tget (Tr.set 9 T 510 (some (.mrk (.fn (.func g) (xs ++ c.args.toList.map (evA G T)) ys :: markL (tget T 510))))) t = if t = 510 then .mrk (.fn (.func g) (xs ++ c.args.toList.map (evA G T)) ys :: markL (tget T 510)) else tget T t := fun t => by
                unfold tget
                rw [Tr.get_set 9 T 510 t _ (by omega)]
                by_cases e : t = 510 <;> simp [e]
              refine hQ _ _ ⟨ρ, ⟨hA3.size, fun t => ?_, fun t => ?_, ?_⟩, M, fun _ _ => rfl, Nat.le_refl _⟩
              · rw [hg']
                by_cases e : t = 510
                · rw [if_pos e]
                  subst e
                  have := hA3.size
                  show a.tmps.getD 510 undef = _
                  simp [AV.conc, Array.getD_eq_getD_getElem?, Array.getElem?_eq_none (show a.tmps.size ≤ 510 by rw [this]; omega), undef]
                · rw [if_neg e]; exact hA3.val t
              · rw [hg']
                by_cases e : t = 510
                · rw [if_pos e]
                  simp only [AV.wf]
                  refine (wfs_iff _ _ _).2 fun u hu => ?_
                  rcases List.mem_cons.1 hu with rfl | hu
                  · simp only [AV.wf]; exact ⟨(wfs_iff ρ n _).2 hw, h2.2⟩
                  · exact markL_wf (hA3.wf 510) u hu
                · rw [if_neg e]; exact hA3.wf t
              · rw [hg', if_pos rfl]
                show (_ :: a.defers) = _
                rw [hA3.defers]
                rfl
          · cases ht
        · cases ht
      · cases ht
    · cases h
  | o :: o' :: l, T, H, n, ρ, a, w, T', H', n', h, A, M, hQ => by
    simp only [xSeqD, yEff_eq] at h
    unfold wpListIn
    rw [xWanted_ok A ops o]
    cases hw : xWanted ops T o with
    | true =>
      rw [hw] at h
      simp only at h
      split at h
      · rename_i v H1 n1 he
        split at h
        · rename_i T1 ht
          refine (xEff_ok hc M (fun x => (A.ev M x).1) (fun x => (A.ev M x).2) he fun ρ1 w1 M1 hρ hwf hn => ?_)
          exact xSeqD_ok hc (o' :: l) h ((A.ext hρ hn).put hwf ht) M1 fun a' w' hat => hQ a' w' (hat.back hρ hn)
        · cases h
      · cases h
    | false =>
      rw [hw] at h
      cases h
/-! ### a scope with jumps -/
theorem stepR_scope {b : Frame} {a : Act} {k : List Go.Item} {cs : List Frame} {w : World} {c : Code} : step P (lone (b.atR a (.code (.scope c) :: k)) cs w) = .next (lone (b.atR a (.code c :: .inScope c :: k)) cs w) :=
  step_lone_go (by simp [stepG, stepG.exec, Frame.atR])
theorem stepR_inScope {b : Frame} {a : Act} {k : List Go.Item} {cs : List Frame} {w : World} {c : Code} : step P (lone (b.atR a (.inScope c :: k)) cs w) = .next (lone (b.atR a k) cs w) :=
  step_lone_go (by simp [stepG, stepG.exec, Frame.atR])
/-- a piece of code of a scope, up to the scope's end -/
def InScope (F : Fence) (m : Nat) (P : Program) (c : Code) (Q : Exit → Act → World → Prop) (cur : Code) (a : Act) (w : World) : Prop :=
  ∀ (b : Frame) (k : List Go.Item) (cs : List Frame), b.roundOf = F.round → F.fn b.fn → F.room (cs.length + 1 + m) →
    ∃ e a' w', Q e a' w' ∧ ArrivesIn (Machine.fenced P F) P (lone (b.atR a (.code cur :: .inScope c :: k)) cs w) b k cs e a' w'
theorem wpIn_scope_in {F : Fence} {m : Nat} {c : Code} {Q : Exit → Act → World → Prop} {a : Act} {w : World} (h : InScope F m P c Q c a w) : (Code.scope c).wpIn F m P Q a w := fun b k cs hro hb hr =>
  let ⟨e, a', w', q, r⟩ := h b k cs hro hb hr
  ⟨e, a', w', q, .of_steps (.one (fenced_calm hb hr rfl) stepR_scope) r⟩
theorem inScope_of {F : Fence} {m : Nat} {c cur : Code} {Q : Exit → Act → World → Prop} {a : Act} {w : World}
    (h : cur.wpIn F m P (fun e a w => match e with | .goto l => (∃ rest, findLabel c l = some rest ∧ InScope F m P c Q rest a w) | e => Q e a w) a w) : InScope F m P c Q cur a w := by
  intro b k cs hro hb hr
  obtain ⟨e, a1, w1, q, r⟩ := h b (.inScope c :: k) cs hro hb hr
  cases e with
  | normal => exact ⟨.normal, a1, w1, q, StepsIn.trans r (.one (fenced_calm hb hr rfl) stepR_inScope)⟩
  | exit id => exact ⟨.exit id, a1, w1, q, r⟩
  | goto l =>
    obtain ⟨rest, hf, hs⟩ := q
    obtain ⟨e2, a2, w2, q2, r2⟩ := hs b k cs hro hb hr
    exact ⟨e2, a2, w2, q2, .of_steps (r.1 _ (by simp [gotoIn, hf])) r2⟩
  | ret => exact ⟨.ret, a1, w1, q, r⟩
  | panic ch => exact ⟨.panic ch, a1, w1, q, r⟩
  | outgrown => exact ⟨.outgrown, a1, w1, q, r⟩
def xScope (rc : Code → Tm → Hp → Nat → Option (XE × Tm × Hp × Nat)) (c : Code) : Nat → Code → Tm → Hp → Nat → Option (XE × Tm × Hp × Nat)
  | 0, _, _, _, _ => none
  | f + 1, cur, T, H, n => match rc cur T H n with
    | some (.goto l, T', H', n') => match findLabel c l with
      | some rest => xScope rc c f rest T' H' n'
      | none => none
    | r => r
theorem xScope_ok {F : Fence} {m : Nat} {rc : Code → Tm → Hp → Nat → Option (XE × Tm × Hp × Nat)} {c : Code}
    (ih : ∀ {cur : Code} {T : Tm} {H : Hp} {n : Nat} {ρ : Env} {a : Act} {w : World} {e : XE} {T' : Tm} {H' : Hp} {n' : Nat} {Q : Exit → Act → World → Prop}, rc cur T H n = some (e, T', H', n') → ActOk ρ n T sz a → Mem w0 out G ρ (hv H) n w → (∀ a' w', At w0 out G ρ n sz T' H' n' a' w' → Q e.ex a' w') → cur.wpIn F m P Q a w) :
    ∀ (f : Nat) {cur : Code} {T : Tm} {H : Hp} {n : Nat} {ρ : Env} {a : Act} {w : World} {e : XE} {T' : Tm} {H' : Hp} {n' : Nat} {Q : Exit → Act → World → Prop}, xScope rc c f cur T H n = some (e, T', H', n') → ActOk ρ n T sz a → Mem w0 out G ρ (hv H) n w → (∀ a' w', At w0 out G ρ n sz T' H' n' a' w' → Q e.ex a' w') → InScope F m P c Q cur a w
  | 0, _, _, _, _, _, _, _, _, _, _, _, _, h, _, _, _ => by simp [xScope] at h
  | f + 1, cur, T, H, n, ρ, a, w, e, T', H', n', Q, h, A, M, hQ => by
    simp only [xScope] at h
    split at h
    · rename_i l T1 H1 n1 hr
      split at h
      · rename_i rest hf
        refine inScope_of (ih hr A M fun a1 w1 hat => ?_)
        obtain ⟨ρ1, A1, M1, hρ, hn⟩ := hat
        exact ⟨rest, hf, xScope_ok ih f h A1 M1 fun a2 w2 hat => hQ a2 w2 (hat.back hρ hn)⟩
      · cases h
    · rename_i r hne
      refine inScope_of (ih h A M fun a1 w1 hat => ?_)
      cases e with
      | normal => exact hQ a1 w1 hat
      | exit id => exact hQ a1 w1 hat
      | ret => exact hQ a1 w1 hat
      | goto l => exact (hne _ _ _ _ h).elim
end
/-- a range over a function -/
def xRange (P : Program) (C : Cal) (sz : Nat) (ps : Array Tmp) (assign body : Code) (g : AV) (T : Tm) (H : Hp) (n : Nat) : Option (XE × Tm × Hp × Nat) :=
  match g with
  | .fn (.func f) xs ys => bif callable P f && Nat.blt (n + 3) 1048576 && Nat.blt sz 511 then (match C.call f (xs ++ (.yld (n + 1) :: ys)) (Tr.set 20 (Tr.set 20 H n (some .dfr)) (n + 1) (some (.loop false sz T ps assign body))) (n + 2) with
    | some (_, H2, n2) => match hv H2 (n + 1) with
      | some (.loop false _ _ _ _ _) => some (.normal, Tr.set 9 T 510 (some (.mrk (.yld n :: markL (tget T 510)))), Tr.set 20 H2 (n + 1) none, n2)
      | _ => none
    | none => none) else none
  | _ => none
def xCode (P : Program) (C : Cal) (G sz : Nat) (rd : Bool) : Nat → Code → Tm → Hp → Nat → Option (XE × Tm × Hp × Nat)
  | 0, _, _, _, _ => none
  | f + 1, c, T, H, n => match c with
    | .skip => some (.normal, T, H, n)
    | .label _ => some (.normal, T, H, n)
    | .region _ ops draw => match xRegion P C G sz ops draw T H n with
      | some (T', H', n') => some (.normal, T', H', n')
      | none => bif rd || draw then none else (match xSeqD P C G sz ops ops.toList T H n with
        | some (T', H', n') => some (.normal, T', H', n')
        | none => none)
    | .seq x y => match xCode P C G sz rd f x T H n with
      | some (.normal, T', H', n') => xCode P C G sz rd f y T' H' n'
      | r => r
    | .cond c x y => match evA G T c with
      | .lit (.bool t) => xCode P C G sz rd f (bif t then x else y) T H n
      | _ => none
    | .block id c => match xCode P C G sz rd f c T H n with
      | some (.exit id', T', H', n') => bif id'.beq id then some (.normal, T', H', n') else some (.exit id', T', H', n')
      | r => r
    | .loop c => match xCode P C G sz rd f c T H n with
      | some (.normal, T', H', n') => xCode P C G sz rd f (.loop c) T' H' n'
      | r => r
    | .exit id => some (.exit id, T, H, n)
    | .ret => some (.ret, T, H, n)
    | .rangeFunc g ps x y => bif rd then none else xRange P C sz ps x y (evA G T g) T H n
    | .goto l => some (.goto l, T, H, n)
    | .scope c => xScope (xCode P C G sz rd f) c f c T H n
    | _ => none
/-! ### the same, each way a constant of its own -/
abbrev CodeF := Code → Tm → Hp → Nat → Option (XE × Tm × Hp × Nat)
abbrev CodeK := Program → Cal → Nat → Nat → Bool → CodeF → Tm → Hp → Nat → Option (XE × Tm × Hp × Nat)
def isSel (o : Oper) : Bool := match o.op with
  | .select _ _ => true
  | _ => false
def yRegion (P : Program) (C : Cal) (G sz : Nat) (ops : Array Oper) (draw : Bool) (T : Tm) (H : Hp) (n : Nat) : Option (Tm × Hp × Nat) :=
  match draw with
  | false => match ops.toList with
    | [] => some (T, H, n)
    | o :: l => bif isSel o then xRegion P C G sz ops false T H n else xSeq P C G sz ops (o :: l) T H n
  | true => match planOf ops with
    | none => none
    | some p => match xPlan P C G sz ops (masks ops.toList []) H n p true [] T H n with
      | some (T', H', n', _) => some (T', H', n')
      | none => none
theorem yRegion_eq (P : Program) (C : Cal) (G sz : Nat) (ops : Array Oper) (draw : Bool) (T : Tm) (H : Hp) (n : Nat) : yRegion P C G sz ops draw T H n = xRegion P C G sz ops draw T H n := by
  cases draw with
  | true => rfl
  | false =>
    unfold yRegion
    simp only
    split
    · rename_i h
      unfold xRegion
      rw [h]
      rfl
    · rename_i o l h
      cases hs : isSel o with
      | true => rfl
      | false =>
        have hx : xSel P (evA G T) o = none := by
          unfold xSel
          split
          · rename_i hop
            unfold isSel at hs
            rw [hop] at hs
            cases hs
          · rfl
        unfold xRegion
        rw [h]
        simp only [xHead, hx]
        rfl
def kSkip : CodeK := fun _ _ _ _ _ _ T H n => some (.normal, T, H, n)
def kRet : CodeK := fun _ _ _ _ _ _ T H n => some (.ret, T, H, n)
def kExit (id : Nat) : CodeK := fun _ _ _ _ _ _ T H n => some (.exit id, T, H, n)
def kNone : CodeK := fun _ _ _ _ _ _ _ _ _ => none
def kRegion (ops : Array Oper) (draw : Bool) : CodeK := fun P C G sz rd _ T H n => match yRegion P C G sz ops draw T H n with
  | some (T', H', n') => some (.normal, T', H', n')
  | none => bif rd || draw then none else (match xSeqD P C G sz ops ops.toList T H n with
    | some (T', H', n') => some (.normal, T', H', n')
    | none => none)
def kGoto (l : Nat) : CodeK := fun _ _ _ _ _ _ T H n => some (.goto l, T, H, n)
def kSeq (x y : Code) : CodeK := fun _ _ _ _ _ rc T H n => match rc x T H n with
  | some (.normal, T', H', n') => rc y T' H' n'
  | r => r
def kCond (c : Operand) (x y : Code) : CodeK := fun _ _ G _ _ rc T H n => match evA G T c with
  | .lit (.bool t) => rc (bif t then x else y) T H n
  | _ => none
def kBlock (id : Nat) (c : Code) : CodeK := fun _ _ _ _ _ rc T H n => match rc c T H n with
  | some (.exit id', T', H', n') => bif id'.beq id then some (.normal, T', H', n') else some (.exit id', T', H', n')
  | r => r
def kLoop (c : Code) : CodeK := fun _ _ _ _ _ rc T H n => match rc c T H n with
  | some (.normal, T', H', n') => rc (.loop c) T' H' n'
  | r => r
def kRange (g : Operand) (ps : Array Tmp) (x y : Code) : CodeK := fun P C G sz rd _ T H n => bif rd then none else xRange P C sz ps x y (evA G T g) T H n
def kScope (f : Nat) (c : Code) : CodeK := fun _ _ _ _ _ rc T H n => xScope rc c f c T H n
def yCode (P : Program) (C : Cal) (G sz : Nat) (rd : Bool) : Nat → CodeF
  | 0, _, _, _, _ => none
  | f + 1, c, T, H, n => (match c with
    | .skip => kSkip
    | .label _ => kSkip
    | .region _ ops draw => kRegion ops draw
    | .seq x y => kSeq x y
    | .cond c x y => kCond c x y
    | .block id c => kBlock id c
    | .loop c => kLoop c
    | .exit id => kExit id
    | .ret => kRet
    | .rangeFunc g ps x y => kRange g ps x y
    | .goto l => kGoto l
    | .scope c => kScope f c
    | _ => kNone) P C G sz rd (yCode P C G sz rd f) T H n
theorem yCode_eq (P : Program) (C : Cal) (G sz : Nat) (rd : Bool) : ∀ (f : Nat), yCode P C G sz rd f = xCode P C G sz rd f
  | 0 => rfl
  | f + 1 => by
    have ih := yCode_eq P C G sz rd f
    funext c T H n
    cases c <;> (unfold yCode; rw [ih]) <;> first | rfl | (simp only [kRegion, yRegion_eq]; rfl)
section
variable {P : Program} {w0 : World} {out : Nat → Prop} {G sz : Nat}
theorem xRange_ok {C : Cal} (hc : CalOk P G C) {m : Nat} {ρ : Env} {n : Nat} {T : Tm} {H : Hp} {a : Act} {w : World} {g : Operand} {ps : Array Tmp} {assign body : Code} {e : XE} {T' : Tm} {H' : Hp} {n' : Nat} {Q : Exit → Act → World → Prop}
    (h : xRange P C sz ps assign body (evA G T g) T H n = some (e, T', H', n')) (A : ActOk ρ n T sz a) (M : Mem w0 out G ρ (hv H) n w) (hQ : ∀ a' w', At w0 out G ρ n sz T' H' n' a' w' → Q e.ex a' w') : (Code.rangeFunc g ps assign body).wpIn (FW none) m P Q a w := by
  unfold xRange at h
  split at h
  · rename_i f xs ys hev
    cases hb : (callable P f && Nat.blt (n + 3) 1048576 && Nat.blt sz 511) with
    | false => rw [hb] at h; cases h
    | true =>
      rw [hb] at h
      simp only [cond_true] at h
      rw [Bool.and_eq_true, Bool.and_eq_true] at hb
      obtain ⟨hb, hszb⟩ := hb
      have hszb : sz < 511 := by simpa [Nat.blt_eq] using hszb
      have hn3 : n + 3 < 1048576 := by simpa [Nat.blt_eq] using hb.2
      split at h
      · rename_i v H2 n2 hcall
        split at h
        · rename_i sz2 T2 ps2 as2 bo2 hl2
          simp only [Option.some.injEq, Prod.mk.injEq] at h
          obtain ⟨rfl, rfl, rfl, rfl⟩ := h
          have hwf := (A.ev M g).2
          rw [hev] at hwf
          simp only [AV.wf] at hwf
          have hge : a.eval g = .func (.func f) ⟨xs.map (AV.conc ρ)⟩ ⟨ys.map (AV.conc ρ)⟩ := by rw [(A.ev M g).1, hev]; simp [AV.conc, concs_map]
          -- the two blocks
          obtain ⟨M1, hρ1⟩ := M.new (sp := ⟨w.heap.size, 0, 0⟩) (o' := .deferred (some [])) (ao := .dfr) (w' := w.alloc (.deferred (some []))) rfl rfl (by simp only [ObjOk]; rw [upd_same]; exact World.alloc_heap_new w _) trivial
          have hsz1 : (w.alloc (.deferred (some []))).heap.size = w.heap.size + 1 := by show (w.heap.push _).size = _; simp
          have A1 := A.ext hρ1 (Nat.le_succ n)
          have hloop : ∀ fn, ∃ ρ2, Mem w0 out G ρ2 (upd (upd (hv H) n (some .dfr)) (n + 1) (some (.loop false sz T ps assign body))) (n + 2)
              ((w.alloc (.deferred (some []))).alloc (.loop { state := .ready, pending := none, fn, tmps := a.tmps, params := ps, assign, body, defers := w.heap.size })) ∧ (∀ b, b < n → ρ2 b = ρ b) ∧ (ρ2 n).blk = w.heap.size ∧ (ρ2 (n + 1)).blk = w.heap.size + 1 := by
            intro fn
            have hρ2 : ∀ b, b < n + 1 → upd (upd ρ n ⟨w.heap.size, 0, 0⟩) (n + 1) ⟨w.heap.size + 1, 0, 0⟩ b = upd ρ n ⟨w.heap.size, 0, 0⟩ b := fun b hb => upd_other _ _ (by omega)
            have A2 := A1.ext hρ2 (Nat.le_succ (n + 1))
            obtain ⟨M2, hρ2'⟩ := M1.new (sp := ⟨w.heap.size + 1, 0, 0⟩) (o' := .loop { state := .ready, pending := none, fn, tmps := a.tmps, params := ps, assign, body, defers := w.heap.size }) (ao := .loop false sz T ps assign body)
              (w' := (w.alloc (.deferred (some []))).alloc (.loop { state := .ready, pending := none, fn, tmps := a.tmps, params := ps, assign, body, defers := w.heap.size })) hsz1.symm rfl
              ⟨fn, a.tmps, w.heap.size, by rw [upd_same]; have := World.alloc_heap_new (w.alloc (.deferred (some []))) (.loop { state := .ready, pending := none, fn, tmps := a.tmps, params := ps, assign, body, defers := w.heap.size }); rw [hsz1] at this; exact this, A2.size, A2.val⟩
              (fun t => A2.wf t)
            refine ⟨_, M2, fun b hb => by rw [hρ2' b (by omega), hρ1 b hb], ?_, ?_⟩
            · rw [upd_other _ _ (by omega), upd_same]
            · rw [upd_same]
          refine wpIn_rangeFunc fun fn _ => ?_
          obtain ⟨ρ2, M2, hρ2, hb1, hb2⟩ := hloop fn
          have hHv : hv (Tr.set 20 (Tr.set 20 H n (some .dfr)) (n + 1) (some (.loop false sz T ps assign body))) = upd (upd (hv H) n (some .dfr)) (n + 1) (some (.loop false sz T ps assign body)) := by
            rw [hv_set _ (n + 1) _ (by omega), hv_set H n _ (by omega)]
          rw [← hHv] at M2
          have hargs : ∀ u ∈ xs ++ (AV.yld (n + 1) :: ys), u.wf ρ2 (n + 2) := fun u hu => by
            rcases List.mem_append.1 hu with hu | hu
            · exact wf_ext hρ2 (by omega) u ((wfs_iff ρ n _).1 hwf.1 u hu)
            · rcases List.mem_cons.1 hu with rfl | hu
              · simp only [AV.wf]; omega
              · exact wf_ext hρ2 (by omega) u ((wfs_iff ρ n _).1 hwf.2 u hu)
          have hC := hc.1 f _ _ _ _ hcall w0 out ρ2 _ M2 hargs
          have hmap : (⟨(xs ++ (AV.yld (n + 1) :: ys)).map (AV.conc ρ2)⟩ : Array Value) = (⟨xs.map (AV.conc ρ)⟩ : Array Value) ++ #[Value.func (.yield (w.heap.size + 1)) #[] #[]] ++ (⟨ys.map (AV.conc ρ)⟩ : Array Value) := by
            apply Array.ext'
            have e1 : xs.map (AV.conc ρ2) = xs.map (AV.conc ρ) := List.map_congr_left fun u hu => conc_ext hρ2 u ((wfs_iff ρ n _).1 hwf.1 u hu)
            have e2 : ys.map (AV.conc ρ2) = ys.map (AV.conc ρ) := List.map_congr_left fun u hu => conc_ext hρ2 u ((wfs_iff ρ n _).1 hwf.2 u hu)
            simp only [List.map_append, List.map_cons, e1, e2, AV.conc, hb2]
            simp
          refine ⟨_, _, _, { target := .fn (.func f) ⟨ys.map (AV.conc ρ)⟩, args := (⟨xs.map (AV.conc ρ)⟩ : Array Value) ++ #[Value.func (.yield (w.heap.size + 1)) #[] #[]] }, (w.alloc (.deferred (some []))).alloc (.loop { state := .ready, pending := none, fn, tmps := a.tmps, params := ps, assign, body, defers := w.heap.size }), f, _, _, run_enterLoop_outer fn a.tmps ps assign body, ?_, fun _ _ => trivial, ?_, fun e => (by cases e), CallsIn.mono (callsIn_FW (by rw [hmap] at hC; exact hC)) ?_⟩
          · have hm1 : (#[Operand.const (Value.func (.yield (w.heap.size + 1)) #[] #[])] : Array Operand).map a.eval = #[Value.func (.yield (w.heap.size + 1)) #[] #[]] := by simp [Act.eval]
            simp only [resolve, rangeCall, hge, Deferred.ofValue, hm1]
            rfl
          · simp only [invoke]
            exact callable_run hb.1 _ _
          · rintro e' w3 ⟨ρ3, rfl, M3, hρ3, hwf3, hle3⟩
            obtain ⟨⟨fn', tmps', d', hl, _, _⟩, _⟩ := M3.obj (n + 1) _ hl2
            have hblk : (ρ3 (n + 1)).blk = w.heap.size + 1 := by rw [hρ3 (n + 1) (by omega), hb2]
            rw [hblk] at hl
            refine ⟨none, _, run_endLoop hl (by simp), ?_⟩
            have hle3 : n + 2 ≤ n2 := hle3
            refine hQ _ _ ⟨ρ3, ?_, ?_, fun b hb => by rw [hρ3 b (by omega), hρ2 b hb], by omega⟩
            · have hA3 := A.ext (ρ' := ρ3) (m := n2) (fun b hb => by rw [hρ3 b (by omega), hρ2 b hb]) (by omega)
              have hg : ∀ t, tget (Tr.set 9 T 510 (some (.mrk (.yld n :: markL (tget T 510))))) t = if t = 510 then .mrk (.yld n :: markL (tget T 510)) else tget T t := fun t => by
                unfold tget
                rw [Tr.get_set 9 T 510 t _ (by omega)]
                by_cases e : t = 510 <;> simp [e]
              refine ⟨hA3.size, fun t => ?_, fun t => ?_, ?_⟩
              · rw [hg]
                by_cases e : t = 510
                · rw [if_pos e]
                  subst e
                  have := hA3.size
                  show a.tmps.getD 510 undef = _
                  simp [AV.conc, Array.getD_eq_getD_getElem?, Array.getElem?_eq_none (show a.tmps.size ≤ 510 by rw [this]; omega), undef]
                · rw [if_neg e]; exact hA3.val t
              · rw [hg]
                by_cases e : t = 510
                · rw [if_pos e]
                  simp only [AV.wf]
                  refine (wfs_iff _ _ _).2 fun u hu => ?_
                  rcases List.mem_cons.1 hu with rfl | hu
                  · simp only [AV.wf]; omega
                  · exact markL_wf (hA3.wf 510) u hu
                · rw [if_neg e]; exact hA3.wf t
              · rw [hg, if_pos rfl]
                show ([{ target := .collected w.heap.size, args := #[] }] : List Deferred) ++ a.defers = _
                rw [hA3.defers]
                simp only [markL, marksOf, markOf, List.map_cons, List.singleton_append]
                rw [hρ3 n (by omega), hb1]
            · rw [hv_set H2 (n + 1) none (by omega)]
              exact M3.forget hl2 (fun x hx => World.putObj_heap_other (by rw [hblk] at hx; exact hx)) World.putObj_size
        · cases h
      · cases h
  · cases h
end
section
variable {P : Program} {w0 : World} {out : Nat → Prop} {G sz : Nat}
theorem xCode_ok {ro : Option Nat} {m : Nat} {rd : Bool} {C : Cal} (hc : CalOk P G C) (hm : P.follows .mixedOrders = true) (hrd : rd = false → ro = none) : ∀ (f : Nat) {c : Code} {T : Tm} {H : Hp} {n : Nat} {ρ : Env} {a : Act} {w : World} {e : XE} {T' : Tm} {H' : Hp} {n' : Nat} {Q : Exit → Act → World → Prop},
    xCode P C G sz rd f c T H n = some (e, T', H', n') → ActOk ρ n T sz a → Mem w0 out G ρ (hv H) n w → (∀ a' w', At w0 out G ρ n sz T' H' n' a' w' → Q e.ex a' w') → c.wpIn (FW ro) m P Q a w ∧ (∀ b, c = .loop b → Code.roundsIn (FW ro) m P b Q f a w) := by
  intro f
  induction f with
  | zero => intro c T H n ρ a w e T' H' n' Q h; simp [xCode] at h
  | succ f ih =>
    intro c T H n ρ a w e T' H' n' Q h A M hQ
    have done : ∀ {e' : XE}, (some (e', T, H, n) : Option (XE × Tm × Hp × Nat)) = some (e, T', H', n') → Q e'.ex a w := fun h => by
      simp only [Option.some.injEq, Prod.mk.injEq] at h
      obtain ⟨rfl, rfl, rfl, rfl⟩ := h
      exact hQ a w ⟨ρ, A, M, fun _ _ => rfl, Nat.le_refl _⟩
    cases c with
    | skip => simp only [xCode] at h; exact ⟨wpIn_skip (done h), fun b hb => by cases hb⟩
    | label l => simp only [xCode] at h; exact ⟨wpIn_label (done h), fun b hb => by cases hb⟩
    | exit id => simp only [xCode] at h; exact ⟨wpIn_exit (done h), fun b hb => by cases hb⟩
    | ret => simp only [xCode] at h; exact ⟨wpIn_ret (done h), fun b hb => by cases hb⟩
    | region id ops draw =>
      simp only [xCode] at h
      split at h
      · rename_i T1 H1 n1 hr
        simp only [Option.some.injEq, Prod.mk.injEq] at h
        obtain ⟨rfl, rfl, rfl, rfl⟩ := h
        exact ⟨xRegion_ok hc hm hr A M hQ, fun b hb => by cases hb⟩
      · cases hrd2 : (rd || draw) with
        | true => rw [hrd2] at h; cases h
        | false =>
          rw [hrd2] at h
          simp only [cond_false] at h
          simp only [Bool.or_eq_false_iff] at hrd2
          obtain ⟨rfl, rfl⟩ := hrd2
          obtain rfl := hrd rfl
          split at h
          · rename_i T1 H1 n1 hr
            simp only [Option.some.injEq, Prod.mk.injEq] at h
            obtain ⟨rfl, rfl, rfl, rfl⟩ := h
            exact ⟨wpIn_region_list (xSeqD_ok hc ops.toList hr A M hQ), fun b hb => by cases hb⟩
          · cases h
    | seq x y =>
      refine ⟨wpIn_seq ?_, fun b hb => by cases hb⟩
      simp only [xCode] at h
      split at h
      · rename_i T1 H1 n1 hx
        exact (ih hx A M fun a1 w1 ⟨ρ1, A1, M1, hρ, hn⟩ => (ih h A1 M1 fun a2 w2 hat => hQ a2 w2 (hat.back hρ hn)).1).1
      · rename_i r hne
        refine (ih h A M fun a1 w1 hat => ?_).1
        cases e with
        | normal => exact (hne _ _ _ h).elim
        | exit id => exact hQ a1 w1 hat
        | ret => exact hQ a1 w1 hat
        | goto l => exact hQ a1 w1 hat
    | cond c x y =>
      refine ⟨?_, fun b hb => by cases hb⟩
      simp only [xCode] at h
      split at h
      · rename_i t hev
        have hcv : a.eval c = .bool t := by rw [(A.ev M c).1, hev]; rfl
        refine wpIn_cond hcv ?_
        have := (ih h A M hQ).1
        cases t <;> exact this
      · cases h
    | block id c =>
      refine ⟨wpIn_block ?_, fun b hb => by cases hb⟩
      simp only [xCode] at h
      split at h
      · rename_i id' T1 H1 n1 hx
        refine (ih hx A M fun a1 w1 hat => ?_).1
        show Exit.inBlock id Q (.exit id') a1 w1
        unfold Exit.inBlock
        by_cases hid : id'.beq id = true
        · rw [hid] at h
          simp only [cond_true, Option.some.injEq, Prod.mk.injEq] at h
          obtain ⟨rfl, rfl, rfl, rfl⟩ := h
          simp only [Nat.eq_of_beq_eq_true hid, if_true]
          exact hQ a1 w1 hat
        · rw [Bool.eq_false_iff.2 hid] at h
          simp only [cond_false, Option.some.injEq, Prod.mk.injEq] at h
          obtain ⟨rfl, rfl, rfl, rfl⟩ := h
          have : ¬ id' = id := fun e => hid (by rw [e]; exact Nat.beq_refl id)
          simp only [this, if_false]
          exact hQ a1 w1 hat
      · rename_i r hne
        refine (ih h A M fun a1 w1 hat => ?_).1
        cases e with
        | normal => exact hQ a1 w1 hat
        | exit id' => exact (hne _ _ _ _ h).elim
        | ret => exact hQ a1 w1 hat
        | goto l => exact hQ a1 w1 hat
    | loop c =>
      have hr : Code.roundsIn (FW ro) m P c Q (f + 1) a w := by
        rw [roundsIn_succ]
        simp only [xCode] at h
        split at h
        · rename_i T1 H1 n1 hx
          exact (ih hx A M fun a1 w1 ⟨ρ1, A1, M1, hρ, hn⟩ => (ih h A1 M1 fun a2 w2 hat => hQ a2 w2 (hat.back hρ hn)).2 c rfl).1
        · rename_i r hne
          refine (ih h A M fun a1 w1 hat => ?_).1
          cases e with
          | normal => exact (hne _ _ _ h).elim
          | exit id => exact hQ a1 w1 hat
          | ret => exact hQ a1 w1 hat
          | goto l => exact hQ a1 w1 hat
      exact ⟨wpIn_loop_rounds _ hr, fun b hb => by cases hb; exact hr⟩
    | scope c =>
      simp only [xCode] at h
      exact ⟨wpIn_scope_in (xScope_ok (fun hx A M hQ => (ih hx A M hQ).1) f h A M hQ), fun b hb => by cases hb⟩
    | rangeFunc g ps x y =>
      simp only [xCode] at h
      cases rd with
      | true => cases h
      | false =>
        have := hrd rfl
        subst this
        exact ⟨xRange_ok hc h A M hQ, fun b hb => by cases hb⟩
    | goto l => simp only [xCode] at h; exact ⟨wpIn_goto (done h), fun b hb => by cases hb⟩
    | refuse why => simp [xCode] at h
end
/-! ### calls -/
def initT : List AV → Nat → Tm → Tm
  | [], _, T => T
  | v :: l, i, T => initT l (i + 1) (Tr.set 9 T i (some v))
theorem initT_get : ∀ (l : List AV) (i : Nat) (T : Tm) (t : Nat), i + l.length < 511 → tget (initT l i T) t = if i ≤ t ∧ t < i + l.length then (l[t - i]?).getD (.lit undef) else tget T t
  | [], i, T, t, h => by simp only [initT, List.length_nil]; rw [if_neg (by omega)]
  | v :: l, i, T, t, h => by
    simp only [initT]
    simp only [List.length_cons] at h
    rw [initT_get l (i + 1) _ t (by omega)]
    have hg : tget (Tr.set 9 T i (some v)) t = if t = i then v else tget T t := by
      unfold tget
      rw [Tr.get_set 9 T i t (some v) (by omega)]
      by_cases e : t = i <;> simp [e]
    rw [hg]
    simp only [List.length_cons]
    by_cases e : t = i
    · subst e
      rw [if_neg (by omega), if_pos rfl, if_pos (by omega)]
      simp
    · by_cases h1 : i + 1 ≤ t ∧ t < i + 1 + l.length
      · rw [if_pos h1, if_pos (by omega), show t - i = (t - (i + 1)) + 1 from by omega, List.getElem?_cons_succ]
      · rw [if_neg h1, if_neg e, if_neg (by omega)]
def xResults (P : Program) (h : Hv) (T : Tm) : List ResultVar → Option (List AV)
  | [] => some []
  | .tmp t :: l => (xResults P h T l).map (tget T t :: ·)
  | .cell b t :: l => match xLoad P h t (tget T b) with
    | some v => (xResults P h T l).map (v :: ·)
    | none => none
def packed : List AV → AV
  | [v] => v
  | vs => .tup vs
/-- the marks are come to -/
def takeMarks (P : Program) (idle : FuncId → List AV → Bool) : List AV → Hp → Option Hp
  | [], H => some H
  | .yld b :: l, H => match hv H b with
    | some .dfr => bif Nat.blt (b + 1) 1048576 then takeMarks P idle l (Tr.set 20 H b none) else none
    | _ => none
  | .fn (.func f) xs ys :: l, H => bif callable P f && idle f (xs ++ ys) then takeMarks P idle l H else none
  | _ :: _, _ => none
def xBody (P : Program) (G fuel : Nat) (C : Cal) : CallF := fun f args H n =>
  match P.funcs[f]? with
  | none => none
  | some fn => match fn.body with
    | none => none
    | some c => bif Nat.ble args.length fn.ntmps && Nat.blt fn.ntmps 511 then (match yCode P C G fn.ntmps false fuel c (initT args 0 .leaf) H n with
      | some (.exit _, _, _, _) => none
      | some (.goto _, _, _, _) => none
      | some (_, T, H1, n') => match takeMarks P C.idle (markL (tget T 510)) H1 with
        | some H' => match xResults P (hv H') T fn.results.toList with
          | some vs => some (packed vs, H', n')
          | none => none
        | none => none
      | none => none) else none
def resF (tmps : Array Value) : ResultVar → Sem Value
  | .tmp t => pure (tmps.getD t undef)
  | .cell b t => do loadVar t (← asAddr (tmps.getD b undef))
theorem results_eq (fn : Func) (tmps : Array Value) : results fn tmps = (fn.results.mapM (resF tmps)) >>= fun vs => pure (if h : vs.size = 1 then vs[0] else .tuple vs) := by
  unfold results
  congr 1
theorem xResults_ok {P : Program} {w0 : World} {out : Nat → Prop} {G sz : Nat} {ρ : Env} {H : Hp} {n : Nat} {w : World} {T : Tm} {a : Act} (A : ActOk ρ n T sz a) (M : Mem w0 out G ρ (hv H) n w) : ∀ {l : List ResultVar} {vs : List AV}, xResults P (hv H) T l = some vs →
    (l.mapM (resF a.tmps)).run P w = .ok (vs.map (AV.conc ρ)) w ∧ AV.wfs ρ n vs
  | [], vs, h => by simp only [xResults, Option.some.injEq] at h; subst h; exact ⟨rfl, by simp only [AV.wfs]⟩
  | .tmp t :: l, vs, h => by
    simp only [xResults, Option.map_eq_some_iff] at h
    obtain ⟨vs', h', rfl⟩ := h
    obtain ⟨h1, h2⟩ := xResults_ok A M h'
    refine ⟨?_, by simp only [AV.wfs]; exact ⟨A.wf t, h2⟩⟩
    simp only [List.mapM_cons, Sem.run_bind, resF, rp, Result.andThen_ok, List.map_cons, A.val t]
    rw [h1]
    rfl
  | .cell b t :: l, vs, h => by
    simp only [xResults] at h
    split at h
    · rename_i v hv'
      obtain ⟨vs', h', rfl⟩ := Option.map_eq_some_iff.1 h
      obtain ⟨h1, h2⟩ := xResults_ok A M h'
      obtain ⟨b', o', hx, g1, g2⟩ := xLoad_ok (w0 := w0) (out := out) (G := G) (ρ := ρ) (n := n) hv'
      obtain ⟨g3, g4⟩ := g2 w M
      refine ⟨?_, by simp only [AV.wfs]; exact ⟨g4, h2⟩⟩
      have hb : a.tmps.getD b undef = .pointer (some ⟨(ρ b').blk, (ρ b').base + o', none⟩) := by rw [A.val b, hx]; rfl
      have hl := g1 w g3
      rw [hx] at hl
      simp only [Instr.loadAt, AV.conc, Instr.sureAddr, Sem.run_bind, rp, Result.andThen_ok] at hl
      have hh : (resF a.tmps (.cell b t)).run P w = .ok (v.conc ρ) w := by
        simp only [resF, Sem.run_bind, hb]
        exact hl
      simp only [List.mapM_cons, Sem.run_bind, hh, h1, Result.andThen_ok, List.map_cons, rp]
    · cases h
theorem leaves_marks {P : Program} {w0 : World} {out : Nat → Prop} {G m : Nat} {ρ : Env} {n : Nat} {fn : Func} {tmps : Array Value} {R : Ending → World → Prop} {idle : FuncId → List AV → Bool} (hi : IdleOk P idle) : ∀ {l : List AV} {H H' : Hp} {w : World}, takeMarks P idle l H = some H' → Mem w0 out G ρ (hv H) n w →
    (∀ w', Mem w0 out G ρ (hv H') n w' → ∃ v, (results fn tmps).run P w' = .ok v w' ∧ R (.returned v) w') → LeavesInM (FW none) m P fn tmps R (marksOf ρ l) .returning w
  | [], H, H', w, h, M, hr => by
    simp only [takeMarks, Option.some.injEq] at h
    subst h
    exact hr w M
  | .yld b :: l, H, H', w, h, M, hr => by
    simp only [takeMarks] at h
    split at h
    · rename_i hb
      by_cases hb1 : Nat.blt (b + 1) 1048576 = true
      · rw [hb1] at h
        have hb1 : b + 1 < 1048576 := by simpa [Nat.blt_eq] using hb1
        refine ⟨by simp, .inl ⟨(ρ b).blk, _, rfl, run_takeDeferred (M.obj b _ hb).1, ?_⟩⟩
        have M' : Mem w0 out G ρ (hv (Tr.set 20 H b none)) n (w.putObj (ρ b).blk (.deferred none)) := by
          rw [hv_set H b none hb1]
          exact M.forget hb (fun x hx => World.putObj_heap_other hx) World.putObj_size
        exact leaves_marks hi h M' hr
      · rw [Bool.eq_false_iff.2 hb1] at h; cases h
    · cases h
  | .fn g xs ys :: l, H, H', w, h, M, hr => by
    cases g with
    | func f =>
      simp only [takeMarks] at h
      cases hcd : (callable P f && idle f (xs ++ ys)) with
      | false => rw [hcd] at h; cases h
      | true =>
        rw [hcd] at h
        simp only [cond_true] at h
        rw [Bool.and_eq_true] at hcd
        refine ⟨by simp, .inr ⟨(fun e => by cases e), .func f, ⟨ys.map (AV.conc ρ)⟩, f, ⟨(xs ++ ys).map (AV.conc ρ)⟩, rfl, ?_, fun _ _ => trivial, ?_⟩⟩
        · have e : (⟨xs.map (AV.conc ρ)⟩ : Array Value) ++ ⟨ys.map (AV.conc ρ)⟩ = ⟨(xs ++ ys).map (AV.conc ρ)⟩ := by simp
          show (callFunc f (⟨xs.map (AV.conc ρ)⟩ ++ ⟨ys.map (AV.conc ρ)⟩)).run P w = _
          rw [e]
          exact callable_run hcd.1 _ _
        · obtain ⟨q1, q2⟩ := hi f _ hcd.2 (m - 1) ρ w
          refine ⟨q1, fun c cs hu hro => ?_⟩
          obtain ⟨e, u', w', fr, ⟨⟨v, rfl⟩, rfl, hb⟩, q⟩ := q2 c cs hu hro
          exact ⟨_, _, _, fr, leaves_marks hi h (M.later hb) hr, q⟩
    | _ => simp [takeMarks] at h
  | .lit _ :: _, H, H', w, h, M, hr => by simp [takeMarks] at h
  | .ptr _ _ :: _, H, H', w, h, M, hr => by simp [takeMarks] at h
  | .slc _ _ _ _ _ _ :: _, H, H', w, h, M, hr => by simp [takeMarks] at h
  | .mp _ :: _, H, H', w, h, M, hr => by simp [takeMarks] at h
  | .agg _ :: _, H, H', w, h, M, hr => by simp [takeMarks] at h
  | .tup _ :: _, H, H', w, h, M, hr => by simp [takeMarks] at h
  | .ifc _ _ :: _, H, H', w, h, M, hr => by simp [takeMarks] at h
  | .mrk _ :: _, H, H', w, h, M, hr => by simp [takeMarks] at h
theorem xBody_ok {P : Program} {G fuel : Nat} {C : Cal} (hc : CalOk P G C) (hm : P.follows .mixedOrders = true) : CallOk P G (xBody P G fuel C) := by
  intro f args H n r h w0 out ρ w M hw
  simp only [xBody, yCode_eq] at h
  split at h
  · cases h
  · rename_i fn hf
    split at h
    · cases h
    · rename_i c hb
      cases hcd : (Nat.ble args.length fn.ntmps && Nat.blt fn.ntmps 511) with
      | false => rw [hcd] at h; cases h
      | true =>
        rw [hcd] at h
        simp only [cond_true] at h
        simp only [Bool.and_eq_true, Nat.ble_eq, Nat.blt_eq] at hcd
        refine callsIn_wide.1 (callsIn_of_wp_marks (F := FW none) (n := 0) hf hb trivial ?_)
        have A : ActOk ρ n (initT args 0 .leaf) fn.ntmps { tmps := (⟨args.map (AV.conc ρ)⟩ : Array Value) ++ Array.replicate (fn.ntmps - (⟨args.map (AV.conc ρ)⟩ : Array Value).size) undef, defers := [] } := by
          have hg : ∀ t, tget (initT args 0 .leaf) t = if t < args.length then (args[t]?).getD (.lit undef) else .lit undef := fun t => by
            rw [initT_get args 0 .leaf t (by omega)]
            have : tget (.leaf : Tm) t = .lit undef := by unfold tget; rw [Tr.get_leaf]
            rw [this]
            simp
          refine ⟨by simp; omega, fun t => ?_, fun t => ?_, by rw [hg, if_neg (by omega)]; rfl⟩
          · rw [hg]
            by_cases ht : t < args.length
            · rw [if_pos ht, List.getElem?_eq_getElem ht]
              simp [Array.getD_eq_getD_getElem?, Array.getElem?_append, ht]
            · rw [if_neg ht]
              simp only [Array.getD_eq_getD_getElem?, AV.conc]
              rw [Array.getElem?_append_right (by simp; omega)]
              rw [Array.getElem?_replicate]
              split <;> rfl
          · rw [hg]
            by_cases ht : t < args.length
            · rw [if_pos ht, List.getElem?_eq_getElem ht]
              exact hw _ (List.getElem_mem ht)
            · rw [if_neg ht]; simp only [AV.wf]
        have fin : ∀ (e : XE) (T' : Tm) (H' : Hp) (n' : Nat), e.ex = .normal ∨ e.ex = .ret → xCode P C G fn.ntmps false fuel c (initT args 0 .leaf) H n = some (e, T', H', n') → (match takeMarks P C.idle (markL (tget T' 510)) H' with | some H2 => (match xResults P (hv H2) T' fn.results.toList with | some vs => some (packed vs, H2, n') | none => none) | none => none) = some r →
            Code.wpIn (FW none) 0 P c (bodyPostM (FW none) 0 P fn (CallPost w0 out G ρ n r)) { tmps := (⟨args.map (AV.conc ρ)⟩ : Array Value) ++ Array.replicate (fn.ntmps - (⟨args.map (AV.conc ρ)⟩ : Array Value).size) undef, defers := [] } w := by
          intro e T' H' n' he hx hr
          split at hr
          · rename_i H2 htm
            split at hr
            · rename_i vs hv'
              cases hr
              refine (xCode_ok (ro := none) hc hm (fun _ => rfl) fuel hx A M fun a' w' ⟨ρ', A', M', hρ, hn⟩ => ?_).1
              have hlv : LeavesInM (FW none) 0 P fn a'.tmps (CallPost w0 out G ρ n (packed vs, H2, n')) a'.defers .returning w' := by
                rw [A'.defers]
                refine leaves_marks hc.2.2.2 htm M' fun w2 M2 => ?_
                obtain ⟨g1, g2⟩ := xResults_ok A' M2 hv'
                have hres : (results fn a'.tmps).run P w2 = .ok ((packed vs).conc ρ') w2 := by
                  rw [results_eq, Array.mapM_eq_mapM_toList]
                  simp only [Sem.run_bind, Sem.run_map, g1, Result.andThen_ok, rp]
                  congr 1
                  cases vs with
                  | nil => simp [packed, AV.conc, AV.concs]
                  | cons v vs => cases vs with
                    | nil => simp [packed]
                    | cons u vs => simp [packed, AV.conc, concs_map]
                have hpw : (packed vs).wf ρ' n' := by
                  unfold packed
                  split
                  · simp only [AV.wfs] at g2; exact g2.1
                  · simp only [AV.wf]; exact g2
                exact ⟨_, hres, ρ', rfl, M2, hρ, hpw, hn⟩
              rcases he with he | he <;> rw [he] <;> exact hlv
            · cases hr
          · cases hr
        split at h
        · cases h
        · cases h
        · rename_i e T' H' n' hne hne2 hx
          cases e with
          | normal => exact fin .normal T' H' n' (.inl rfl) hx h
          | exit id => exact (hne id rfl).elim
          | ret => exact fin .ret T' H' n' (.inr rfl) hx h
          | goto l => exact (hne2 l rfl).elim
        · cases h
/-- the parameters of a round -/
def putPs : List Tmp → List AV → Tm → Tm
  | p :: ps, v :: vs, T => putPs ps vs (Tr.set 9 T p (some v))
  | _, _, T => T
def psOk (sz : Nat) : List Tmp → Bool
  | [] => true
  | p :: ps => Nat.blt p sz && psOk sz ps
/-- a round of a range over a function -/
def xRound (P : Program) (C : Cal) (G fuel : Nat) : RndF := fun b args H n =>
  match hv H b with
  | some (.loop false sz T ps assign body) => bif args.length.beq ps.size && psOk sz ps.toList && Nat.blt sz 511 && Nat.blt (b + 1) 1048576 then (match yCode P C G sz true fuel assign (putPs ps.toList args (Tr.set 9 T 510 none)) H n with
    | some (.normal, T2, H2, n2) => match hv H2 b with
      | some (.loop false sz1 T1 ps1 as1 bo1) => match yCode P C G sz true fuel body T2 (Tr.set 20 H2 b (some (.loop true sz1 T1 ps1 as1 bo1))) n2 with
        | some (.normal, _, H4, n4) => match hv H4 b with
          | some (.loop true sz3 T3 ps3 as3 bo3) => some (Tr.set 20 H4 b (some (.loop false sz3 T3 ps3 as3 bo3)), n4)
          | _ => none
        | _ => none
      | _ => none
    | _ => none) else none
  | _ => none
theorem putPs_ok {ρ : Env} {n sz : Nat} : ∀ {ps : List Tmp} {vs : List AV} {T : Tm} {a : Act}, psOk sz ps = true → sz < 511 → ps.length = vs.length → (∀ v ∈ vs, v.wf ρ n) → ActOk ρ n T sz a →
    ActOk ρ n (putPs ps vs T) sz { tmps := (ps.zip (vs.map (AV.conc ρ))).foldl (fun tmps x => tmps.setIfInBounds x.1 x.2) a.tmps, defers := a.defers }
  | [], [], T, a, _, _, _, _, A => A
  | [], _ :: _, _, _, _, _, h, _, _ => by simp at h
  | _ :: _, [], _, _, _, _, h, _, _ => by simp at h
  | p :: ps, v :: vs, T, a, hp, hs, hl, hw, A => by
    simp only [psOk, Bool.and_eq_true, Nat.blt_eq] at hp
    have hput : tput T sz (some p) v = some (Tr.set 9 T p (some v)) := by
      have h1 : Nat.lt p sz := hp.1
      have h2 : Nat.lt p 510 := Nat.lt_of_lt_of_le h1 (by omega)
      show (bif Nat.blt p sz && Nat.blt p 510 then some (Tr.set 9 T p (some v)) else none) = _
      rw [show Nat.blt p sz = true from Nat.blt_eq.symm ▸ h1, show Nat.blt p 510 = true from Nat.blt_eq.symm ▸ h2]
      rfl
    exact putPs_ok (a := a.put (some p) (v.conc ρ)) hp.2 hs (by simpa using hl) (fun u hu => hw u (by simp [hu])) (A.put (hw v (by simp)) hput)
theorem xRound_ok {P : Program} {G fuel : Nat} {C : Cal} (hc : CalOk P G C) (hm : P.follows .mixedOrders = true) : RndOk P G (xRound P C G fuel) := by
  intro b args H n r h ro k w0 out ρ w M hargs
  simp only [xRound, yCode_eq] at h
  split at h
  · rename_i sz T ps assign body hb
    cases hcd : (args.length.beq ps.size && psOk sz ps.toList && Nat.blt sz 511 && Nat.blt (b + 1) 1048576) with
    | false => rw [hcd] at h; cases h
    | true =>
      rw [hcd] at h
      simp only [cond_true] at h
      simp only [Bool.and_eq_true, Nat.blt_eq] at hcd
      obtain ⟨⟨⟨c1, c2⟩, c3⟩, c4⟩ := hcd
      have c1 := Nat.eq_of_beq_eq_true c1
      obtain ⟨⟨fn, tmps, d, hl, hsz, hval⟩, hwf⟩ := M.obj b _ hb
      have hwf : ∀ t, (tget T t).wf ρ n := hwf
      split at h
      · rename_i T2 H2 n2 hx1
        split at h
        · rename_i sz1 T1 ps1 as1 bo1 hb2
          split at h
          · rename_i T4 H4 n4 hx2
            split at h
            · rename_i sz3 T3 ps3 as3 bo3 hb4
              cases h
              have hfold : ((ps.zip (⟨args.map (AV.conc ρ)⟩ : Array Value)).foldl (fun tmps (t, a) => tmps.setIfInBounds t a) tmps) = (ps.toList.zip (args.map (AV.conc ρ))).foldl (fun tmps x => tmps.setIfInBounds x.1 x.2) tmps := by
                rw [← Array.foldl_toList, Array.toList_zip]
              refine ⟨fn, _, assign, body, run_yield hl (by simp [c1]), ?_⟩
              have hg : ∀ t, tget (Tr.set 9 T 510 none) t = if t = 510 then .lit undef else tget T t := fun t => by
                unfold tget
                rw [Tr.get_set 9 T 510 t _ (by omega)]
                by_cases e : t = 510 <;> simp [e]
              have A0 : ActOk ρ n (Tr.set 9 T 510 none) sz { tmps := tmps, defers := [] } := by
                refine ⟨hsz, fun t => ?_, fun t => ?_, by rw [hg, if_pos rfl]; rfl⟩
                · rw [hg]
                  by_cases e : t = 510
                  · subst e
                    rw [if_pos rfl]
                    simp [AV.conc, Array.getD_eq_getD_getElem?, Array.getElem?_eq_none (show tmps.size ≤ 510 by omega)]
                  · rw [if_neg e]; exact hval t
                · rw [hg]
                  by_cases e : t = 510
                  · rw [if_pos e]; simp only [AV.wf]
                  · rw [if_neg e]; exact hwf t
              have A1 := putPs_ok (ps := ps.toList) (vs := args) c2 c3 (by simp [c1]) hargs A0
              refine roundIn_of_wpIn trivial ?_
              rw [hfold]
              refine (xCode_ok (ro := some (ρ b).blk) (rd := true) hc hm (fun e => by cases e) fuel hx1 A1 M fun a2 w2 ⟨ρ2, A2, M2, hρ2, hn2⟩ => ?_).1
              obtain ⟨⟨fn1, tmps1, d1, hl1, hsz1, hval1⟩, hwf1⟩ := M2.obj b _ hb2
              have hblk2 : (ρ2 b).blk = (ρ b).blk := by rw [hρ2 b (M.lt b _ hb)]
              rw [hblk2] at hl1
              refine ⟨_, run_beginRound hl1 rfl, ?_⟩
              have hlt1 := (Array.getElem?_eq_some_iff.1 hl1).1
              have M3 : Mem w0 out G ρ2 (hv (Tr.set 20 H2 b (some (.loop true sz1 T1 ps1 as1 bo1)))) n2 (w2.putObj (ρ b).blk (.loop { state := .busy, pending := none, fn := fn1, tmps := tmps1, params := ps1, assign := as1, body := bo1, defers := d1 })) := by
                rw [hv_set H2 b _ c4]
                exact M2.put hb2 ⟨fn1, tmps1, d1, by rw [hblk2]; exact World.putObj_heap_same hlt1, hsz1, hval1⟩ hwf1 (fun x hx => World.putObj_heap_other (by rw [hblk2] at hx; exact hx)) World.putObj_size
              refine (xCode_ok (ro := some (ρ b).blk) (rd := true) hc hm (fun e => by cases e) fuel hx2 A2 M3 fun a4 w4 ⟨ρ4, A4, M4, hρ4, hn4⟩ => ?_).1
              obtain ⟨⟨fn3, tmps3, d3, hl3, hsz3, hval3⟩, hwf3⟩ := M4.obj b _ hb4
              have hblk4 : (ρ4 b).blk = (ρ b).blk := by rw [hρ4 b (M2.lt b _ hb2), hblk2]
              rw [hblk4] at hl3
              have hlt3 := (Array.getElem?_eq_some_iff.1 hl3).1
              refine ⟨_, _, run_endRound none hl3, ρ4, rfl, ?_, fun x hx => by rw [hρ4 x (by omega), hρ2 x hx], by show n ≤ n4; omega⟩
              show Mem w0 out G ρ4 (hv (Tr.set 20 H4 b _)) n4 _
              rw [hv_set H4 b _ c4]
              exact M4.put hb4 ⟨fn3, tmps3, d3, by rw [hblk4]; exact World.putObj_heap_same hlt3, hsz3, hval3⟩ hwf3 (fun x hx => World.putObj_heap_other (by rw [hblk4] at hx; exact hx)) World.putObj_size
            · cases h
          · cases h
        · cases h
      · cases h
  · cases h
/-- calls, so deep; of some functions others answer -/
def xCal (P : Program) (G fuel : Nat) (orc : CallF) (ext : FuncId → List AV → Option AV) (idle : FuncId → List AV → Bool) : Nat → Cal
  | 0 => ⟨orc, fun _ _ _ _ => none, ext, idle⟩
  | d + 1 => ⟨fun f args H n => match orc f args H n with
      | some r => some r
      | none => xBody P G fuel (xCal P G fuel orc ext idle d) f args H n, xRound P (xCal P G fuel orc ext idle d) G fuel, ext, idle⟩
theorem xCal_ok {P : Program} {G fuel : Nat} {orc : CallF} {ext : FuncId → List AV → Option AV} {idle : FuncId → List AV → Bool} (ho : CallOk P G orc) (hs : ExtOk P ext) (hi : IdleOk P idle) (hm : P.follows .mixedOrders = true) : ∀ d, CalOk P G (xCal P G fuel orc ext idle d)
  | 0 => ⟨ho, fun _ _ _ _ _ h => (by cases h), hs, hi⟩
  | d + 1 => by
    refine ⟨?_, xRound_ok (xCal_ok ho hs hi hm d) hm, hs, hi⟩
    intro f args H n r h
    simp only [xCal] at h
    split at h
    · rename_i r' hr
      cases h
      exact ho f args H n r hr
    · exact xBody_ok (xCal_ok ho hs hi hm d) hm f args H n r h
end
end Cx
end Go.Proofs.YtboondbognbnnaaGreatDoor
