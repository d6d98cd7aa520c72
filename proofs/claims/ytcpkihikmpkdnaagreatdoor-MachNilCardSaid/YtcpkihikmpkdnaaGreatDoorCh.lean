/- A verified executor of closed calls, part 8: maps, copy, calls; all operations. -/
import Derived.Test.YtcpkihikmpkdnaaGreatDoorCg
import Derived.RangeFuncRecord
import Derived.OrdersIn
import Derived.TacticsIn
import Derived.LoopNIn
import Derived.Lib.Builder
import Derived.Lib.UnsafeStr
set_option linter.unusedVariables false
set_option linter.unusedSimpArgs false
namespace Go.Proofs.YtcpkihikmpkdnaaGreatDoor
namespace Cx
noncomputable section
section
variable {P : Program} {w0 : World} {out : Nat → Prop} {G : Nat} {ρ : Env} {H : Hp} {n : Nat} {w : World}
theorem run_gm {r : Nat} {es : Array MapEntry} {clock : Nat} (hb : w.heap[r]? = some (.map es clock)) : (getObj r).run P w = .ok (.map es clock) w := by simp [getObj, Sem.run, hb]
theorem run_sm {r : Nat} {es : Array MapEntry} {clock : Nat} (o : Obj) (hb : w.heap[r]? = some (.map es clock)) : (setObj r o).run P w = .ok () { w with heap := w.heap.setIfInBounds r o } := by simp [setObj, Sem.run, hb]
def toE (ρ : Env) (x : Value × AV × Nat) : MapEntry := { key := x.1, val := x.2.1.conc ρ, born := x.2.2 }
def findA (kind : TypeDesc) (k : Value) : List (Value × AV × Nat) → Nat → Option (Option (Nat × AV))
  | [], _ => some none
  | e :: es, i => match Instr.sameNow kind k e.1 with
    | some true => some (some (i, e.2.1))
    | some false => findA kind k es (i + 1)
    | none => none
theorem findA_eq {kind : TypeDesc} {k : Value} : ∀ {es : List (Value × AV × Nat)} {i : Nat} {r : Option (Nat × AV)}, findA kind k es i = some r →
    Instr.findNow kind k (es.map (toE ρ)) i = some (r.map fun x => (x.1, x.2.conc ρ)) ∧ (∀ x, r = some x → i ≤ x.1 ∧ ∃ e, es[x.1 - i]? = some e ∧ e.2.1 = x.2)
  | [], i, r, h => by simp only [findA, Option.some.injEq] at h; subst h; exact ⟨rfl, fun x e => by cases e⟩
  | e :: es, i, r, h => by
    simp only [findA] at h
    split at h
    · rename_i hs
      cases h
      refine ⟨?_, fun x e => by cases e; exact ⟨Nat.le_refl _, e, by simp, rfl⟩⟩
      simp only [List.map_cons, Instr.findNow, toE, hs, Option.map_some]
    · rename_i hs
      obtain ⟨h1, h2⟩ := findA_eq h
      refine ⟨?_, fun x e => ?_⟩
      · rw [← h1]; simp only [List.map_cons, Instr.findNow, toE, hs]
      · obtain ⟨g1, e', g2, g3⟩ := h2 x e
        refine ⟨by omega, e', ?_, g3⟩
        rw [show x.1 - i = (x.1 - (i + 1)) + 1 from by omega, List.getElem?_cons_succ]
        exact g2
    · cases h
theorem findKey_run {kt : TypeId} {kd : TypeDesc} (hu : P.underlying kt = some kd) {k : Value} {es : List (Value × AV × Nat)} {r : Option (Nat × AV)} (h : findA kd k es 0 = some r) (w : World) :
    (Instr.findKey kt k (es.map (toE ρ))).run P w = .ok (r.map fun x => (x.1, x.2.conc ρ)) w := by
  simp only [Instr.findKey, Sem.run_bind, run_underlying hu, Result.andThen_ok, (findA_eq (ρ := ρ) h).1, rp]
def okTup (ok : Bool) (v : AV) (b : Bool) : AV := bif ok then .tup [v, .lit (.bool b)] else v
def xFind (P : Program) (t : TypeId) (es : List (Value × AV × Nat)) (k : Value) (ok : Bool) : Option AV :=
  match P.underlying t with
  | some (.map kt et) => match P.underlying kt, quick P (Instr.checkKey es.isEmpty 10000 kt k) with
    | some kd, some _ => match findA kd k es 0 with
      | some (some x) => some (okTup ok x.2 true)
      | some none => match aZero P et with
        | some z => some (okTup ok z false)
        | none => none
      | none => none
    | _, _ => none
  | _ => none
def xLookup (P : Program) (h : Hv) (t : TypeId) (x i : AV) (ok : Bool) : Option AV :=
  match i with
  | .lit k => match x with
    | .mp b => match h b with
      | some (.map es _) => xFind P t es k ok
      | _ => none
    | .lit (.map none) => xFind P t [] k ok
    | _ => none
  | _ => none
theorem okTup_ok {ok b : Bool} {v : AV} : (okTup ok v b).conc ρ = (if ok then .tuple #[v.conc ρ, .bool b] else v.conc ρ) ∧ (v.wf ρ n → (okTup ok v b).wf ρ n) := by
  cases ok
  · exact ⟨rfl, id⟩
  · refine ⟨rfl, fun h => ?_⟩
    show AV.wf ρ n (.tup [v, .lit (.bool b)])
    simp only [AV.wf, AV.wfs]
    exact ⟨h, trivial, trivial⟩
theorem xFind_ok {t : TypeId} {es : List (Value × AV × Nat)} {k : Value} {ok : Bool} {v : AV} (h : xFind P t es k ok = some v) (hes : ∀ x ∈ es, x.2.1.wf ρ n) {x : Value} {w : World} (hx : x = .map none ∧ es = [] ∨ ∃ r clock, x = .map (some r) ∧ w.heap[r]? = some (.map ⟨es.map (toE ρ)⟩ clock)) :
    (Instr.lookup t x k ok).run P w = .ok (v.conc ρ) w ∧ v.wf ρ n := by
  unfold xFind at h
  split at h
  · rename_i kt et hu
    split at h
    · rename_i kd u hk hq
      have hck := quick_run hq w
      have hemp : (⟨es.map (toE ρ)⟩ : Array MapEntry).isEmpty = es.isEmpty := by cases es <;> rfl
      have key : ∀ {r : Option (Nat × AV)}, findA kd k es 0 = some r → (Instr.lookup t x k ok).run P w =
          ((match r with | some y => (pure (y.2.conc ρ, true) : Sem (Value × Bool)) | none => do pure (← zeroValue et, false)).run P w).andThen fun y w' => .ok (if ok then .tuple #[y.1, .bool y.2] else y.1) w' := by
        intro r hr
        have hf := findKey_run (ρ := ρ) hk hr w
        rcases hx with ⟨rfl, rfl⟩ | ⟨b, clock, rfl, hb⟩
        · simp only [List.isEmpty_nil] at hck
          simp only [List.map_nil] at hf
          cases r <;> simp only [Instr.lookup, Sem.run_bind, run_underlying hu, Result.andThen_ok, rp, Array.isEmpty_empty, hck, hf, Option.map_none, Option.map_some] <;> first | rfl | (cases (zeroValue et).run P w <;> rfl)
        · rw [← hemp] at hck
          cases r <;> simp only [Instr.lookup, Sem.run_bind, run_underlying hu, Result.andThen_ok, run_gm hb, rp, hck, hf, Option.map_none, Option.map_some] <;> first | rfl | (cases (zeroValue et).run P w <;> rfl)
      split at h
      · rename_i y hy
        cases h
        obtain ⟨_, g2⟩ := findA_eq (ρ := ρ) hy
        obtain ⟨_, e, he, hev⟩ := g2 y rfl
        refine ⟨?_, okTup_ok.2 (hev ▸ hes e (List.mem_of_getElem? he))⟩
        rw [key hy, (okTup_ok (n := 0)).1]
        rfl
      · rename_i hy
        split at h
        · rename_i z hz
          cases h
          refine ⟨?_, okTup_ok.2 ((zero_plain hz).2 ρ n)⟩
          rw [key hy, (okTup_ok (n := 0)).1]
          simp only [Sem.run_bind, run_zero (ρ := ρ) hz w, Result.andThen_ok, rp]
        · cases h
      · cases h
    · cases h
  · cases h
theorem xLookup_ok (M : Mem w0 out G ρ (hv H) n w) {t : TypeId} {x i v : AV} {ok : Bool} (h : xLookup P (hv H) t x i ok = some v) : (Instr.lookup t (x.conc ρ) (i.conc ρ) ok).run P w = .ok (v.conc ρ) w ∧ v.wf ρ n := by
  unfold xLookup at h
  split at h
  · rename_i k
    split at h
    · rename_i b
      split at h
      · rename_i es clock hb
        obtain ⟨h1, h2⟩ := M.obj b _ hb
        exact xFind_ok h h2 (.inr ⟨_, clock, rfl, h1⟩)
      · cases h
    · exact xFind_ok h (fun x hx => by cases hx) (.inl ⟨rfl, rfl⟩)
    · cases h
  · cases h
def setNth {α : Type} : List α → Nat → α → List α
  | [], _, _ => []
  | _ :: l, 0, y => y :: l
  | x :: l, i + 1, y => x :: setNth l i y
theorem setNth_eq {α : Type} (y : α) : ∀ (l : List α) (i : Nat), setNth l i y = l.set i y
  | [], _ => rfl
  | _ :: l, 0 => rfl
  | x :: l, i + 1 => by simp [setNth, setNth_eq y l i]
def xMapSet (P : Program) (H : Hp) (n : Nat) (t : TypeId) (m k v : AV) : Option (AV × Hp × Nat) :=
  match m, k with
  | .mp b, .lit k => match hv H b, P.underlying t with
    | some (.map es clock), some (.map kt _) => match P.underlying kt, quick P (Instr.checkKey false 10000 kt k) with
      | some kd, some _ => bif Nat.blt (b + 1) 1048576 then (match findA kd k es 0 with
        | some (some x) => match es[x.1]? with
          | some e => match quick P (Instr.keyThatStays e.1 k) with
            | some k' => some (.lit undef, Tr.set 20 H b (some (.map (setNth es x.1 (k', v, e.2.2)) clock)), n)
            | none => none
          | none => none
        | some none => some (.lit undef, Tr.set 20 H b (some (.map (es ++ [(k, v, clock)]) (clock + 1))), n)
        | none => none) else none
      | _, _ => none
    | _, _ => none
  | _, _ => none
theorem Mem.setMap (M : Mem w0 out G ρ (hv H) n w) {b clock clock' : Nat} {es es' : List (Value × AV × Nat)} (hb : hv H b = some (.map es clock)) (hes : ∀ x ∈ es', x.2.1.wf ρ n) (hb1 : b + 1 < 1048576) :
    Mem w0 out G ρ (hv (Tr.set 20 H b (some (.map es' clock')))) n { w with heap := w.heap.setIfInBounds (ρ b).blk (.map ⟨es'.map (toE ρ)⟩ clock') } := by
  rw [hv_set H b _ hb1]
  have hlt := M.blk b _ hb
  refine M.put hb ?_ hes (fun x hx => ?_) (by simp)
  · show (w.heap.setIfInBounds _ _)[_]? = _
    rw [Array.getElem?_setIfInBounds_self_of_lt hlt]
    rfl
  · show (w.heap.setIfInBounds _ _)[_]? = _
    rw [Array.getElem?_setIfInBounds_ne (fun e => hx e.symm)]
theorem xMapSet_ok (M : Mem w0 out G ρ (hv H) n w) {t : TypeId} {m k v : AV} {r : AV × Hp × Nat} (h : xMapSet P H n t m k v = some r) (hw : v.wf ρ n) {res : Result Next}
    (hres : res = ((Instr.mapUpdate t (m.conc ρ) (k.conc ρ) (v.conc ρ)).run P w).andThen fun _ w' => .ok .skip w') : Eff w0 out G ρ n r res := by
  unfold xMapSet at h
  split at h
  · rename_i b k
    split at h
    · rename_i es clock kt et hb hu
      obtain ⟨h1, h2⟩ := M.obj b _ hb
      have h1 : w.heap[(ρ b).blk]? = some (.map ⟨es.map (toE ρ)⟩ clock) := h1
      split at h
      · rename_i kd u hk hq
        have hck := quick_run hq w
        by_cases hb1 : Nat.blt (b + 1) 1048576 = true
        · rw [hb1] at h
          have hb1 : b + 1 < 1048576 := by simpa [Nat.blt_eq] using hb1
          simp only [cond_true] at h
          split at h
          · rename_i x hf
            split at h
            · rename_i e he
              split at h
              · rename_i k' hk'
                cases h
                have hrun := findKey_run (ρ := ρ) hk hf w
                refine ⟨ρ, _, .inr ⟨?_, rfl⟩, M.setMap (es' := setNth es x.1 (k', v, e.2.2)) (clock' := clock) hb (fun y hy => ?_) hb1, fun _ _ => rfl, by simp only [AV.wf], Nat.le_refl _⟩
                · have e1 : (⟨es.map (toE ρ)⟩ : Array MapEntry)[x.1]? = some (toE ρ e) := by simp [he]
                  have e2 : (⟨es.map (toE ρ)⟩ : Array MapEntry).modify x.1 (fun q => { q with key := k', val := v.conc ρ }) = ⟨(setNth es x.1 (k', v, e.2.2)).map (toE ρ)⟩ := by
                    apply Array.ext'
                    rw [setNth_eq, Array.toList_modify, List.map_set]
                    apply List.ext_getElem?
                    intro q
                    rw [List.getElem?_modify, List.getElem?_set]
                    by_cases hq : x.1 = q
                    · subst hq
                      obtain ⟨this, he'⟩ := List.getElem?_eq_some_iff.1 he
                      simp [he', this, toE]
                    · simp [hq]
                  rw [hres]
                  simp only [AV.conc, Instr.mapUpdate, Sem.run_bind, run_underlying hu, Result.andThen_ok, run_gm h1, hck, hrun, Option.map_some, e1, Option.getD_some]
                  have hks := quick_run hk' w
                  simp only [toE] at hks ⊢
                  simp only [hks, Result.andThen_ok, run_sm _ h1]
                  rw [e2]
                · rw [setNth_eq] at hy
                  rcases List.mem_or_eq_of_mem_set hy with hy | hy
                  · exact h2 y hy
                  · rw [hy]; exact hw
              · cases h
            · cases h
          · rename_i hf
            cases h
            have hrun := findKey_run (ρ := ρ) hk hf w
            refine ⟨ρ, _, .inr ⟨?_, rfl⟩, M.setMap (es' := es ++ [(k, v, clock)]) (clock' := clock + 1) hb (fun y hy => ?_) hb1, fun _ _ => rfl, by simp only [AV.wf], Nat.le_refl _⟩
            · rw [hres]
              simp only [AV.conc, Instr.mapUpdate, Sem.run_bind, run_underlying hu, Result.andThen_ok, run_gm h1, hck, hrun, Option.map_none, run_sm _ h1]
              have e2 : (⟨es.map (toE ρ)⟩ : Array MapEntry).push { key := k, val := v.conc ρ, born := clock } = ⟨(es ++ [(k, v, clock)]).map (toE ρ)⟩ := by
                apply Array.ext'
                simp [toE]
              rw [e2]
            · rcases List.mem_append.1 hy with hy | hy
              · exact h2 y hy
              · have : y = (k, v, clock) := by simpa using hy
                rw [this]; exact hw
          · cases h
        · rw [Bool.eq_false_iff.2 hb1] at h; cases h
      · cases h
    · cases h
  · cases h
/-! ### copy, len of a map -/
def xCopy (P : Program) (H : Hp) (n : Nat) (ts : Array TypeId) (args : List AV) : Option (AV × Hp × Nat) :=
  match ts.toList, args with
  | [dT, _], [.slc b o o' _ len _, .slc b2 o2 o2' _ len2 _] => match sliceElem P dT with
    | none => none
    | some e => match aSize P e, hv H b, hv H b2 with
      | some s, some (.cells l e1 x1), some (.cells l2 _ _) => bif o.beq o' && o2.beq o2' && Nat.blt (b + 1) 1048576 then (match takeN (min len2 len * s) (l2.drop o2) with
        | some vs => bif vs.all AV.single then (match splice l o vs with
          | some l' => some (.lit (.int .i64 (Int.ofNat (min len2 len))), Tr.set 20 H b (some (.cells l' e1 x1)), n)
          | none => none) else none
        | none => none) else none
      | _, _, _ => none
  | [dT, _], [.slc .., .lit (.slice none 0 _)] => match sliceElem P dT with
    | some e => match aSize P e with
      | some _ => some (.lit (.int .i64 0), H, n)
      | none => none
    | none => none
  | _, _ => none
theorem xCopy_ok (M : Mem w0 out G ρ (hv H) n w) {ts : Array TypeId} {ty : TypeId} {args : List AV} {r : AV × Hp × Nat} (h : xCopy P H n ts args = some r) {res : Result Next}
    (hres : res = ((Builtin.copy_ ts ty ⟨args.map (AV.conc ρ)⟩).run P w).andThen fun v w' => .ok (.value v) w') : Eff w0 out G ρ n r res := by
  unfold xCopy at h
  split at h
  · rename_i dT sT b o o' j len c b2 o2 o2' j2 len2 c2 hts
    have hts : ts = #[dT, sT] := by apply Array.ext'; simpa using hts
    subst hts
    split at h
    · cases h
    · rename_i e he
      have hu := sliceElem_eq he
      split at h
      · rename_i s l e1 x1 l2 e2 x2 hs hb hb2
        cases hc : (o.beq o' && o2.beq o2' && Nat.blt (b + 1) 1048576) with
        | false => rw [hc] at h; cases h
        | true =>
          rw [hc] at h
          simp only [Bool.and_eq_true] at hc
          have ho := Nat.eq_of_beq_eq_true hc.1.1
          have ho2 := Nat.eq_of_beq_eq_true hc.1.2
          have hb1 : b + 1 < 1048576 := by simpa [Nat.blt_eq] using hc.2
          subst ho
          subst ho2
          simp only [cond_true] at h
          split at h
          · rename_i vs hv'
            cases h1 : vs.all AV.single with
            | false => rw [h1] at h; cases h
            | true =>
              rw [h1] at h
              simp only [cond_true] at h
              split at h
              · rename_i l' hsp
                cases h
                obtain ⟨g1, rfl⟩ := takeN_eq hv'
                have hlen : ((l2.drop o2).take (min len2 len * s)).length = min len2 len * s := by simp at g1 ⊢; omega
                have hat : CellsAt ρ w b2 o2 ((l2.drop o2).take (min len2 len * s)) := M.cellsAt hb2 o2 _ fun i v hi => by
                  rw [List.getElem?_take] at hi
                  split at hi
                  · rwa [List.getElem?_drop] at hi
                  · cases hi
                obtain ⟨w', hrun, hM⟩ := M.splice (P := P) hb hsp ((wfs_iff ρ n _).2 fun v hv => (wfs_iff ρ n l2).1 (M.obj b2 _ hb2).2 v (List.mem_of_mem_drop (List.mem_of_mem_take hv))) h1 hb1
                have hfc := run_firstCells_some (P := P) w s (min len2 len) ⟨(ρ b2).blk, (ρ b2).base + o2, none⟩ len2 (capOf ρ b2 j2 c2) (((l2.drop o2).take (min len2 len * s)).map (AV.conc ρ)) (by rw [List.length_map, hlen]) (fun q u hq => by
                  rw [List.getElem?_map] at hq
                  obtain ⟨v, hv, rfl⟩ := Option.map_eq_some_iff.1 hq
                  rw [add_off, Nat.add_assoc]
                  exact hat q v hv)
                have hmin : Nat.min len2 len = min len2 len := rfl
                refine ⟨ρ, w', .inl ?_, hM, fun _ _ => rfl, by simp only [AV.wf], Nat.le_refl _⟩
                rw [hres]
                generalize (l2.drop o2).take (min len2 len * s) = T at hfc hrun
                simp only [List.map_cons, List.map_nil, AV.conc, ite_self]
                simp [Builtin.copy_, run_underlying hu, Builtin.lenOf, run_size hs, hmin, hfc, hrun, goInt]
              · cases h
          · cases h
      · cases h
  · rename_i dT sT b o o' j len c c2 hts
    have hts : ts = #[dT, sT] := by apply Array.ext'; simpa using hts
    subst hts
    split at h
    · rename_i e he
      have hu := sliceElem_eq he
      split at h
      · rename_i sz hs
        cases h
        refine ⟨ρ, w, .inl ?_, M, fun _ _ => rfl, by simp only [AV.wf], Nat.le_refl _⟩
        rw [hres]
        simp only [List.map_cons, List.map_nil, AV.conc]
        simp [Builtin.copy_, run_underlying hu, Builtin.lenOf, run_size hs, Builtin.firstCells, storeCells, goInt, Nat.min]
      · cases h
    · cases h
  · cases h
def xLenMap (P : Program) (h : Hv) (ts : Array TypeId) (args : List AV) : Option AV :=
  match ts.toList, args with
  | t :: _, .mp b :: _ => match P.underlying t, h b with
    | some (.map _ _), some (.map es _) => some (.lit (.int .i64 (Int.ofNat es.length)))
    | _, _ => none
  | _, _ => none
theorem xLenMap_ok (M : Mem w0 out G ρ (hv H) n w) {ts : Array TypeId} {ty : TypeId} {args : List AV} {v : AV} (h : xLenMap P (hv H) ts args = some v) : (Builtin.len_ ts ty ⟨args.map (AV.conc ρ)⟩).run P w = .ok (v.conc ρ) w ∧ v.wf ρ n := by
  unfold xLenMap at h
  split at h
  · rename_i t rest b rest' hts
    have ht0 : ts[0]? = some t := by rw [← Array.getElem?_toList, hts]; rfl
    split at h
    · rename_i kt et es clock hu hb
      cases h
      have h1 : w.heap[(ρ b).blk]? = some (.map ⟨es.map (toE ρ)⟩ clock) := (M.obj b _ hb).1
      refine ⟨?_, by simp only [AV.wf]⟩
      simp [Builtin.len_, ht0, run_underlying hu, AV.conc, run_gm h1, goInt]
    · cases h
  · cases h
end
/-! ### what strings.Builder wants -/
section
variable {P : Program} {w0 : World} {out : Nat → Prop} {G : Nat} {ρ : Env} {H : Hp} {n : Nat} {w : World}
def xConvPtr (P : Program) (h : Hv) (s d : TypeId) (x : AV) : Option AV :=
  match x with
  | .ptr b o => match h b with
    | some (.cells l _ x) => match P.underlying s, P.underlying d with
      | some (.pointer t), some .unsafePointer => match aSize P t with
        | some (_ + 1) => bif Nat.blt o l.length then some (.ptr b o) else none
        | _ => none
      | some .unsafePointer, some (.pointer u) => match aSize P u with
        | some _ => bif x.2 && liesAt P P.depth x.1 (l.length / P.cellsOf x.1) o u 1 then some (.ptr b o) else none
        | none => none
      | _, _ => none
    | _ => none
  | _ => none
theorem xConvPtr_ok (M : Mem w0 out G ρ (hv H) n w) {s d : TypeId} {x v : AV} (hw : x.wf ρ n) (h : xConvPtr P (hv H) s d x = some v) : (convert s d (x.conc ρ)).run P w = .ok (v.conc ρ) w ∧ v.wf ρ n := by
  unfold xConvPtr at h
  split at h
  · rename_i b o
    split at h
    · rename_i l e x hb
      obtain ⟨⟨c, t0, hc, hcell, hle, hsz, ht0, hbase, hex⟩, _⟩ := M.obj b _ hb
      split at h
      · rename_i t hs hd
        split at h
        · rename_i k hk
          obtain ⟨j, hj, hjs⟩ := Option.map_eq_some_iff.1 hk
          by_cases ho : Nat.blt o l.length = true
          · rw [ho] at h
            have ho : o < l.length := by simpa [Nat.blt_eq] using ho
            cases h
            refine ⟨?_, hw⟩
            have h1 := hcell o l[o] (List.getElem?_eq_getElem ho)
            have h2 := (Array.getElem?_eq_some_iff.1 h1).1
            exact Lib.run_to_unsafe w _ hs hd hj (by omega) (e := t0) (cells := c.size) (by simp [World.shape?, hc]) h2
          · rw [Bool.eq_false_iff.2 ho] at h; cases h
        · cases h
      · rename_i u hs hd
        split at h
        · rename_i k hk
          obtain ⟨j, hj, hjs⟩ := Option.map_eq_some_iff.1 hk
          cases hcd : (x.2 && liesAt P P.depth x.1 (l.length / P.cellsOf x.1) o u 1) with
          | false => rw [hcd] at h; cases h
          | true =>
            rw [hcd] at h
            cases h
            rw [Bool.and_eq_true] at hcd
            refine ⟨?_, hw⟩
            refine Lib.run_from_unsafe w _ hs hd hj (e := x.1) (cells := l.length) (by simp [World.shape?, hc, ht0, hex hcd.1]) ?_
            show liesAt P P.depth x.1 _ ((ρ b).base + o) u 1 = true
            rw [hbase, Nat.zero_add]
            exact hcd.2
        · cases h
      · cases h
    · cases h
  · cases h
theorem nbeq (a b : Nat) : a.beq b = decide (a = b) := by
  by_cases e : a = b
  · subst e; simp
  · cases hb : a.beq b with
    | false => simp [e]
    | true => exact absurd (Nat.eq_of_beq_eq_true hb) e
def xPtrEq (P : Program) (op : BinOp) (t : TypeId) (x y : AV) : Option AV :=
  match x, y with
  | .ptr b o, .ptr b' o' => match P.underlying t with
    | some (.pointer te) => match aSize P te with
      | some (_ + 1) => bif b.beq b' then (match op with
        | .eql => some (.lit (.bool (o.beq o')))
        | .neq => some (.lit (.bool (!(o.beq o'))))
        | _ => none) else none
      | _ => none
    | _ => none
  | _, _ => none
theorem xPtrEq_ok {op : BinOp} {t : TypeId} {x y v : AV} (h : xPtrEq P op t x y = some v) (xo yo : Operand) (w : World) :
    (do eqGuard op t xo yo (x.conc ρ) (y.conc ρ); binOp op t (x.conc ρ) (y.conc ρ)).run P w = .ok (v.conc ρ) w ∧ v.wf ρ n := by
  unfold xPtrEq at h
  split at h
  · rename_i b o b' o'
    split at h
    · rename_i te hu
      split at h
      · rename_i k hk
        by_cases hb : b.beq b' = true
        · rw [hb] at h
          have hb := Nat.eq_of_beq_eq_true hb
          subst hb
          have heq : (Op.equal t (AV.conc ρ (.ptr b o)) (AV.conc ρ (.ptr b o'))).run P w = .ok (o.beq o') w := by
            have e : ∀ x y, Op.equal t x y = Op.equalIn (9999 + 1) t x y := fun _ _ => rfl
            rw [e]
            generalize 9999 = d
            rw [nbeq]
            by_cases e : o = o'
            · subst e; simp [Op.equalIn, run_underlying hu, AV.conc, run_size hk, sameAddr]
            · simp [Op.equalIn, run_underlying hu, AV.conc, run_size hk, sameAddr, e]
          simp only [cond_true] at h
          split at h
          · cases h
            refine ⟨?_, by simp only [AV.wf]⟩
            simp only [AV.conc] at heq ⊢
            simp [eqGuard, binOp, heq]
          · cases h
            refine ⟨?_, by simp only [AV.wf]⟩
            simp only [AV.conc] at heq ⊢
            simp [eqGuard, binOp, heq]
          · cases h
        · rw [Bool.eq_false_iff.2 hb] at h; cases h
      · cases h
    · cases h
  · cases h
def xSliceData (args : List AV) : Option AV :=
  match args with
  | [.slc b o o' _ len _] => bif o.beq o' && Nat.blt 0 len then some (.ptr b o) else none
  | _ => none
theorem xSliceData_ok {args : List AV} {v : AV} (hw : ∀ v ∈ args, v.wf ρ n) (h : xSliceData args = some v) (ts : Array TypeId) (ty : TypeId) (w : World) :
    (Builtin.unsafeSliceData_ ts ty ⟨args.map (AV.conc ρ)⟩).run P w = .ok (v.conc ρ) w ∧ v.wf ρ n := by
  unfold xSliceData at h
  split at h
  · rename_i b o o' j len c
    cases hc : (o.beq o' && Nat.blt 0 len) with
    | false => rw [hc] at h; cases h
    | true =>
      rw [hc] at h
      cases h
      rw [Bool.and_eq_true] at hc
      have ho := Nat.eq_of_beq_eq_true hc.1
      have hl : 0 < len := by simpa [Nat.blt_eq] using hc.2
      subst ho
      have hwf := hw _ (List.mem_singleton.2 rfl)
      simp only [AV.wf] at hwf
      have hcap : capOf ρ b j c ≠ 0 := by
        cases c with
        | none => have := hwf.2.1 rfl; simp only [capOf]; omega
        | some k => have := hwf.2.2 k rfl; simp only [capOf]; omega
      refine ⟨?_, hwf.1⟩
      simp only [List.map_cons, List.map_nil, AV.conc, ite_self]
      exact Lib.run_unsafeSliceData_row _ _ _ _ _ _ hcap
  · cases h
def bytesOf : List AV → Option (List UInt8)
  | [] => some []
  | .lit (.int .u8 (.ofNat k)) :: l => bif Nat.blt k 256 then (bytesOf l).map (UInt8.ofNat k :: ·) else none
  | _ => none
theorem bytesOf_eq : ∀ {l : List AV} {bs : List UInt8}, bytesOf l = some bs → l = bs.map fun b => .lit (.int .u8 b.toNat)
  | [], bs, h => by simp only [bytesOf, Option.some.injEq] at h; subst h; rfl
  | v :: l, bs, h => by
    unfold bytesOf at h
    split at h
    · rename_i heq; cases heq
    · rename_i k l' heq
      cases heq
      by_cases hk : Nat.blt k 256 = true
      · rw [hk] at h
        have hk : k < 256 := by simpa [Nat.blt_eq] using hk
        obtain ⟨bs', h', rfl⟩ := Option.map_eq_some_iff.1 h
        rw [bytesOf_eq h']
        simp [Nat.mod_eq_of_lt hk]
      · rw [Bool.eq_false_iff.2 hk] at h; cases h
    · cases h
def xStrOf (P : Program) (H : Hp) (n : Nat) (ts : Array TypeId) (args : List AV) : Option (AV × Hp × Nat) :=
  match ts.toList, args with
  | [pt, _], [.ptr b 0, .lit (.int .i64 (.ofNat (k + 1)))] => match hv H b with
    | some (.cells l _ x) => match P.underlying pt, takeN (k + 1) l with
      | some (.pointer e), some vs => match bytesOf vs with
        | some bs => bif e.beq x.1 && (P.cellsOf e).beq 1 && Nat.blt (b + 1) 1048576 && Nat.blt k 16777216 then some (.lit (.string ⟨bs.toArray⟩), Tr.set 20 H b none, n) else none
        | none => none
      | _, _ => none
    | _ => none
  | _, _ => none
theorem Mem.forget {h : Hv} (M : Mem w0 out G ρ h n w) {b : Nat} {ao : AO} (hb : h b = some ao) {w' : World} (ho : ∀ x, x ≠ (ρ b).blk → w'.heap[x]? = w.heap[x]?) (hsz : w'.heap.size = w.heap.size) (he : SameEnv w w' := by exact ⟨rfl, rfl, rfl⟩) : Mem w0 out G ρ (upd h b none) n w' := by
  have get : ∀ {x y}, upd h b none x = some y → h x = some y ∧ x ≠ b := fun {x y} hx => by
    by_cases e : x = b
    · subst e; rw [upd_same] at hx; cases hx
    · rw [upd_other _ _ e] at hx; exact ⟨hx, e⟩
  exact ⟨fun c o hc => ⟨objOk_ext (M.lt c o (get hc).1) (fun _ _ => rfl) (M.obj c o (get hc).1).2 (ho _ fun e' => (get hc).2 (M.inj c b o ao (get hc).1 hb e')) (M.obj c o (get hc).1).1, (M.obj c o (get hc).1).2⟩,
    fun c o hc => M.lt c o (get hc).1, fun c o hc => by rw [hsz]; exact M.blk c o (get hc).1, fun c c' o o' hc hc' => M.inj c c' o o' (get hc).1 (get hc').1,
    fun c hc => by
      obtain ⟨h1, h2⟩ := M.outs c hc
      exact ⟨by omega, by rw [ho c fun e => M.apart b ao hb (e ▸ hc)]; exact h2⟩,
    fun c o hc => M.apart c o (get hc).1, M.glob, M.globs, M.env.trans he⟩
theorem xStrOf_ok (M : Mem w0 out G ρ (hv H) n w) {ts : Array TypeId} {ty : TypeId} {args : List AV} {r : AV × Hp × Nat} (h : xStrOf P H n ts args = some r) {res : Result Next}
    (hres : res = ((Builtin.unsafeString_ ts ty ⟨args.map (AV.conc ρ)⟩).run P w).andThen fun v w' => .ok (.value v) w') : Eff w0 out G ρ n r res := by
  unfold xStrOf at h
  split at h
  · rename_i pt it b k hts
    have hts : ts = #[pt, it] := by apply Array.ext'; simpa using hts
    subst hts
    split at h
    · rename_i l e0 x hb
      split at h
      · rename_i e vs hu hvs
        split at h
        · rename_i bs hbs
          cases hcd : (e.beq x.1 && (P.cellsOf e).beq 1 && Nat.blt (b + 1) 1048576 && Nat.blt k 16777216) with
          | false => rw [hcd] at h; cases h
          | true =>
            rw [hcd] at h
            cases h
            simp only [Bool.and_eq_true, Nat.blt_eq] at hcd
            obtain ⟨⟨⟨c1, c2⟩, c3⟩, c4⟩ := hcd
            have c1 := Nat.eq_of_beq_eq_true c1
            have c2 := Nat.eq_of_beq_eq_true c2
            obtain ⟨⟨c, t0, hc, hcell, hle, hsz, ht0, hbase, _⟩, _⟩ := M.obj b _ hb
            obtain ⟨g1, rfl⟩ := takeN_eq hvs
            have hbe := bytesOf_eq hbs
            have hlen : bs.length = k + 1 := by
              have := congrArg List.length hbe
              simp at this; omega
            have hcs : l.length ≤ c.size := by
              rcases Nat.eq_zero_or_pos l.length with e | e
              · omega
              · have h1 := hcell (l.length - 1) l[l.length - 1] (List.getElem?_eq_getElem (by omega))
                have := (Array.getElem?_eq_some_iff.1 h1).1
                omega
            have hrun := Lib.run_unsafeString_row (P := P) w pt it ty e hu c2 (ρ b).blk c.size (by simp [World.shape?, hc, ht0, c1]) bs (fun e => by rw [e] at hlen; simp at hlen) (by omega) (by omega) (fun j y hj => by
              rw [add_off, Nat.zero_add]
              have h1 : l[j]? = some (.lit (.int .u8 y.toNat)) := by
                have h2 : (l.take (k + 1))[j]? = some (.lit (.int .u8 y.toNat)) := by rw [hbe, List.getElem?_map, hj]; rfl
                rw [List.getElem?_take] at h2
                split at h2
                · exact h2
                · cases h2
              have h3 := hcell j _ h1
              rw [hbase, Nat.zero_add] at h3
              simp [World.cell?, hc, h3, AV.conc])
            refine ⟨ρ, w.freeze ⟨(ρ b).blk, 0, none⟩ bs.length, .inl ?_, ?_, fun _ _ => rfl, by simp only [AV.wf], Nat.le_refl _⟩
            · rw [hres]
              have hk : (Int.ofNat (k + 1)) = (bs.length : Int) := by rw [hlen]; rfl
              simp only [List.map_cons, List.map_nil, AV.conc, hbase, Nat.zero_add, hk]
              rw [hrun]
              rfl
            · show Mem w0 out G ρ (hv (Tr.set 20 H b none)) n _
              rw [hv_set H b none c3]
              refine M.forget hb (fun x hx => ?_) ?_ (by unfold World.freeze; split <;> exact ⟨rfl, rfl, rfl⟩)
              · unfold World.freeze
                split
                · rfl
                · show (w.heap.modify _ _)[x]? = _
                  rw [Array.getElem?_modify, if_neg (fun e => hx e.symm)]
              · unfold World.freeze
                split
                · rfl
                · simp
        · cases h
      · cases h
    · cases h
  · cases h
end
/-! ### calls -/
def callable (P : Program) (f : FuncId) : Bool := match P.funcs[f]? with
  | some fn => !(fn.name == "runtime.NumGoroutine") && fn.body.isSome
  | none => false
theorem callable_run {P : Program} {f : FuncId} (h : callable P f = true) (args : Array Value) (w : World) : (callFunc f args).run P w = .ok (.enter f args) w := by
  unfold callable at h
  split at h
  · rename_i fn hf
    simp only [Bool.and_eq_true, Bool.not_eq_true'] at h
    obtain ⟨h1, h2⟩ := h
    have h3 : ¬ fn.body = none := fun hb => by rw [hb] at h2; simp at h2
    have h1' : ¬ fn.name = "runtime.NumGoroutine" := by simpa using h1
    simp [callFunc, program, Sem.run, hf, h1', h3]
  · cases h
/-- what is known of calls: whoever answers is right -/
abbrev CallF := FuncId → List AV → Hp → Nat → Option (AV × Hp × Nat)
def CallPost (w0 : World) (out : Nat → Prop) (G : Nat) (ρ : Env) (n : Nat) (r : AV × Hp × Nat) (e : Ending) (w' : World) : Prop :=
  ∃ ρ', e = .returned (r.1.conc ρ') ∧ Mem w0 out G ρ' (hv r.2.1) r.2.2 w' ∧ (∀ b, b < n → ρ' b = ρ b) ∧ r.1.wf ρ' r.2.2 ∧ n ≤ r.2.2
def CallOk (P : Program) (G : Nat) (call : CallF) : Prop :=
  ∀ f args H n r, call f args H n = some r → ∀ w0 out ρ w, Mem w0 out G ρ (hv H) n w → (∀ v ∈ args, v.wf ρ n) → Calls P f ⟨args.map (AV.conc ρ)⟩ w (CallPost w0 out G ρ n r)
/-- the fence that lets all by, in a round or in none -/
abbrev FW (ro : Option Nat) : Fence := { fn := fun _ => True, depth := none, alive := false, round := ro }
theorem callsIn_FW {ro : Option Nat} {k : Nat} {P : Program} {f : FuncId} {args : Array Value} {w : World} {R : Ending → World → Prop} (h : Calls P f args w R) : CallsIn (FW ro) k P f args w R := callsIn_wide.2 h
theorem semAt_eq {ro : Option Nat} {ev : Operand → Value} {o : Oper} (h : ∀ c, o.op ≠ .defer c) : Oper.semAt ro ev o = execOp ev o := by
  unfold Oper.semAt
  split
  · rename_i c ho; exact absurd ho (h c)
  · rfl
/-- rounds of a range over a function -/
abbrev RndF := Nat → List AV → Hp → Nat → Option (Hp × Nat)
def RndPost (w0 : World) (out : Nat → Prop) (G : Nat) (ρ : Env) (n : Nat) (r : Hp × Nat) (e : Ending) (w' : World) : Prop :=
  ∃ ρ', e = .returned (.bool true) ∧ Mem w0 out G ρ' (hv r.1) r.2 w' ∧ (∀ b, b < n → ρ' b = ρ b) ∧ n ≤ r.2
def RndOk (P : Program) (G : Nat) (rnd : RndF) : Prop :=
  ∀ b args H n r, rnd b args H n = some r → ∀ ro k w0 out ρ w, Mem w0 out G ρ (hv H) n w → (∀ v ∈ args, v.wf ρ n) →
    ∃ f tmps assign body, (Instr.yield (ρ b).blk ⟨args.map (AV.conc ρ)⟩).run P w = .ok (.round (ρ b).blk f tmps assign body) w ∧ RoundIn (FW ro) k P (ρ b).blk f tmps assign body w (RndPost w0 out G ρ n r)
/-- same: functions without a body that hand back what they are handed -/
structure Cal where
  call : CallF
  rnd : RndF
  same : FuncId → Bool
def SameOk (P : Program) (same : FuncId → Bool) : Prop := ∀ f, same f = true → ∀ x w, (callFunc f #[x]).run P w = .ok (.value x) w
def CalOk (P : Program) (G : Nat) (C : Cal) : Prop := CallOk P G C.call ∧ RndOk P G C.rnd ∧ SameOk P C.same
def xMethod (P : Program) (t : TypeId) (name : String) : Option FuncId :=
  match P.info? t, P.underlying t with
  | some i, some (.pointer _) => match i.methods.find? (fun m => m.name == name) with
    | some m => match m.path.toList, m.func with
      | [], some (f, true) => bif callable P f then some f else none
      | _, _ => none
    | none => none
  | _, _ => none
def xCallVal (P : Program) (C : Cal) (H : Hp) (n : Nat) (f : AV) (args : List AV) : Option (AV × Hp × Nat) :=
  match f with
  | .lit (.func (.func f) xs ys) => bif callable P f && xs.isEmpty && ys.isEmpty then C.call f args H n else bif C.same f && xs.isEmpty && ys.isEmpty then (match args with
    | [x] => some (x, H, n)
    | _ => none) else none
  | .fn (.func f) xs ys => bif callable P f then C.call f (xs ++ args ++ ys) H n else none
  | .yld b => (C.rnd b args H n).map fun r => (.lit (.bool true), r.1, r.2)
  | _ => none
def xCallInv (P : Program) (C : Cal) (H : Hp) (n : Nat) (m : String) (x : AV) (args : List AV) : Option (AV × Hp × Nat) :=
  match x with
  | .ifc t v => match xMethod P t m with
    | some f => C.call f (v :: args) H n
    | none => none
  | _ => none
def xCallEff (P : Program) (C : Cal) (ev : Operand → AV) (H : Hp) (n : Nat) (c : Call) (ty : TypeId) : Option (AV × Hp × Nat) :=
  match c.callee with
  | .value f => xCallVal P C H n (ev f) (c.args.toList.map ev)
  | .invoke x m => xCallInv P C H n m (ev x) (c.args.toList.map ev)
  | .builtin .append => xAppend P H n c.argTypes (c.args.toList.map ev)
  | .builtin .copy => xCopy P H n c.argTypes (c.args.toList.map ev)
  | .builtin .unsafeSliceData => (xSliceData (c.args.toList.map ev)).map fun v => (v, H, n)
  | .builtin .unsafeString => xStrOf P H n c.argTypes (c.args.toList.map ev)
  | .builtin .len => match xCallPure P c ty ev with
    | some v => some (v, H, n)
    | none => (xLenMap P (hv H) c.argTypes (c.args.toList.map ev)).map fun v => (v, H, n)
  | _ => (xCallPure P c ty ev).map fun v => (v, H, n)
def xEff (P : Program) (C : Cal) (ev : Operand → AV) (H : Hp) (n : Nat) (o : Oper) : Option (AV × Hp × Nat) :=
  match o.op with
  | .load t x => (xLoad P (hv H) t (ev x)).map fun v => (v, H, n)
  | .alloc t => xAlloc P H n t
  | .box t x => xBox H n t (ev x)
  | .buildSlice t len ps => xBuildSlice P H n t len (ps.toList.map fun p => (p.1, ev p.2))
  | .store t x v => xStore P H n t (ev x) (ev v)
  | .makeSlice t l c => xMakeSlice P H n t (ev l) (ev c)
  | .makeMap t r => xMakeMap P H n t (r.map ev)
  | .lookup t x i ok => (xLookup P (hv H) t (ev x) (ev i) ok).map fun v => (v, H, n)
  | .mapUpdate t m k v => xMapSet P H n t (ev m) (ev k) (ev v)
  | .insert t m k v => xMapSet P H n t (ev m) (ev k) (ev v)
  | .call c => xCallEff P C ev H n c o.type
  | .convert s d x => match xConv P s d (ev x) with
    | some v => some (v, H, n)
    | none => (xConvPtr P (hv H) s d (ev x)).map fun v => (v, H, n)
  | .binOp op t x y _ => match xBin P op t x y (ev x) (ev y) with
    | some v => some (v, H, n)
    | none => (xPtrEq P op t (ev x) (ev y)).map fun v => (v, H, n)
  | _ => (xPure P ev o).map fun v => (v, H, n)
section
variable {P : Program} {w0 : World} {out : Nat → Prop} {G : Nat} {ρ : Env} {H : Hp} {n : Nat} {w : World}
theorem eff_wp {ro : Option Nat} {k : Nat} {a : Act} {o : Oper} {r : AV × Hp × Nat} (hnd : ∀ c, o.op ≠ .defer c) (he : Eff w0 out G ρ n r ((execOp a.eval o).run P w)) {next : Act → World → Prop} {Q : Exit → Act → World → Prop}
    (hn : ∀ ρ' w', Mem w0 out G ρ' (hv r.2.1) r.2.2 w' → (∀ b, b < n → ρ' b = ρ b) → r.1.wf ρ' r.2.2 → n ≤ r.2.2 → next (a.put o.dst (r.1.conc ρ')) w') : o.wpIn (FW ro) k P a w next Q := by
  obtain ⟨ρ', w', hr, hM, hρ, hwf, hle⟩ := he
  refine ⟨fun _ _ => trivial, ?_⟩
  rw [semAt_eq hnd]
  rcases hr with hr | ⟨hr, hu⟩
  · rw [hr]; exact hn ρ' w' hM hρ hwf hle
  · rw [hr]
    have := hn ρ' w' hM hρ hwf hle
    rw [hu] at this
    exact this
theorem call_wp {ro : Option Nat} {k : Nat} {call : CallF} (hc : CallOk P G call) (M : Mem w0 out G ρ (hv H) n w) {f : FuncId} {args : List AV} {r : AV × Hp × Nat} (h : call f args H n = some r) (hw : ∀ v ∈ args, v.wf ρ n) {a : Act} {o : Oper} (hnd : ∀ c, o.op ≠ .defer c)
    (hrun : (execOp a.eval o).run P w = .ok (.enter f ⟨args.map (AV.conc ρ)⟩) w) {next : Act → World → Prop} {Q : Exit → Act → World → Prop}
    (hn : ∀ ρ' w', Mem w0 out G ρ' (hv r.2.1) r.2.2 w' → (∀ b, b < n → ρ' b = ρ b) → r.1.wf ρ' r.2.2 → n ≤ r.2.2 → next (a.put o.dst (r.1.conc ρ')) w') : o.wpIn (FW ro) k P a w next Q := by
  refine ⟨fun _ _ => trivial, ?_⟩
  rw [semAt_eq hnd, hrun]
  refine ⟨fun e => (by cases e), CallsIn.mono (callsIn_FW (hc f args H n r h w0 out ρ w M hw)) ?_⟩
  rintro e w' ⟨ρ', rfl, hM, hρ, hwf, hle⟩
  exact hn ρ' w' hM hρ hwf hle
theorem xEff_ok {ro : Option Nat} {k : Nat} {C : Cal} (hc : CalOk P G C) (M : Mem w0 out G ρ (hv H) n w) {ev : Operand → AV} {a : Act} {o : Oper} {r : AV × Hp × Nat} (he : ∀ x, a.eval x = (ev x).conc ρ) (hw : ∀ x, (ev x).wf ρ n) (h : xEff P C ev H n o = some r)
    {next : Act → World → Prop} {Q : Exit → Act → World → Prop}
    (hn : ∀ ρ' w', Mem w0 out G ρ' (hv r.2.1) r.2.2 w' → (∀ b, b < n → ρ' b = ρ b) → r.1.wf ρ' r.2.2 → n ≤ r.2.2 → next (a.put o.dst (r.1.conc ρ')) w') : o.wpIn (FW ro) k P a w next Q := by
  have hnd : ∀ c, o.op ≠ .defer c := fun c ho => by
    simp [xEff, ho, xPure] at h
  have same : ∀ {v : AV}, (execOp a.eval o).run P w = .ok (.value (v.conc ρ)) w → v.wf ρ n → r = (v, H, n) → Eff w0 out G ρ n r ((execOp a.eval o).run P w) := by
    intro v h1 h2 h3
    subst h3
    exact ⟨ρ, w, .inl h1, M, fun _ _ => rfl, h2, Nat.le_refl _⟩
  have hwl : ∀ (xs : Array Operand), ∀ v ∈ xs.toList.map ev, v.wf ρ n := fun xs v hv => by obtain ⟨x, _, rfl⟩ := List.mem_map.1 hv; exact hw x
  have hwp : ∀ (ps : Array (Nat × Operand)), ∀ p ∈ ps.toList.map (fun p => (p.1, ev p.2)), p.2.wf ρ n := fun ps p hp => by obtain ⟨x, _, rfl⟩ := List.mem_map.1 hp; exact hw x.2
  have pure_case : ∀ {v : AV}, xPure P ev o = some v → r = (v, H, n) → o.wpIn (FW ro) k P a w next Q := fun hv hr => by
    obtain ⟨g1, g2⟩ := xPure_ok he hw hv
    exact eff_wp hnd (same (g1 w) g2 hr) hn
  unfold xEff at h
  split at h
  · rename_i t x ho
    obtain ⟨v, hv, rfl⟩ := Option.map_eq_some_iff.1 h
    obtain ⟨b, o', hx, g1, g2⟩ := xLoad_ok (w0 := w0) (out := out) (G := G) (ρ := ρ) (n := n) hv
    obtain ⟨g3, g4⟩ := g2 w M
    refine eff_wp hnd (same ?_ g4 rfl) hn
    simp only [execOp, ho, he, Sem.run_bind, g1 w g3, Result.andThen_ok, rp]
  · rename_i t ho
    exact eff_wp hnd (xAlloc_ok M h ho) hn
  · rename_i t x ho
    exact eff_wp hnd (xBox_ok M h (hw x) ho (he x)) hn
  · rename_i t len ps ho
    refine eff_wp hnd (xBuildSlice_ok M h (hwp ps) ?_) hn
    simp only [execOp, ho, parts_ev he, Sem.run_bind, rp]
  · rename_i t x v ho
    exact eff_wp hnd (xStore_ok M h (hw v) ho (he x) (he v)) hn
  · rename_i t l c ho
    refine eff_wp hnd (xMakeSlice_ok M h ?_) hn
    simp only [execOp, ho, he, Sem.run_bind, rp]
  · rename_i t x ho
    refine eff_wp hnd (xMakeMap_ok M h ?_) hn
    simp only [execOp, ho, opt_ev he, Sem.run_bind, rp]
  · rename_i t x i ok ho
    obtain ⟨v, hv, rfl⟩ := Option.map_eq_some_iff.1 h
    obtain ⟨g1, g2⟩ := xLookup_ok M hv
    refine eff_wp hnd (same ?_ g2 rfl) hn
    simp only [execOp, ho, he, Sem.run_bind, g1, Result.andThen_ok, rp]
  · rename_i t m k v ho
    refine eff_wp hnd (xMapSet_ok M h (hw v) ?_) hn
    simp only [execOp, ho, he, Sem.run_bind, rp]
  · rename_i t m k v ho
    refine eff_wp hnd (xMapSet_ok M h (hw v) ?_) hn
    simp only [execOp, ho, he, Sem.run_bind, rp]
  · rename_i c ho
    unfold xCallEff at h
    have pureC : ∀ {v : AV}, xCallPure P c o.type ev = some v → r = (v, H, n) → o.wpIn (FW ro) k P a w next Q := fun hv hr => pure_case (by unfold xPure; rw [ho]; exact hv) hr
    split at h
    · rename_i f hf
      unfold xCallVal at h
      have hargs := map_ev he c.args
      split at h
      · rename_i g xs ys hev
        cases hcc : (callable P g && xs.isEmpty && ys.isEmpty) with
        | false =>
          rw [hcc] at h
          simp only [cond_false] at h
          cases hss : (C.same g && xs.isEmpty && ys.isEmpty) with
          | false => rw [hss] at h; cases h
          | true =>
            rw [hss] at h
            simp only [cond_true] at h
            simp only [Bool.and_eq_true, Array.isEmpty_iff] at hss
            obtain ⟨⟨c1, rfl⟩, rfl⟩ := hss
            split at h
            · rename_i x hx
              cases h
              have hfv : a.eval f = .func (.func g) #[] #[] := by rw [he, hev]; rfl
              refine eff_wp hnd (same ?_ (hwl c.args x (by rw [hx]; simp)) rfl) hn
              rw [hx] at hargs
              simp only [execOp, ho, resolve, hf, hfv, Deferred.ofValue, Sem.run_bind, rp, Result.andThen_ok, invoke, hargs]
              have := hc.2.2 g c1 (x.conc ρ) w
              simpa using this
            · cases h
        | true =>
          rw [hcc] at h
          simp only [Bool.and_eq_true, Array.isEmpty_iff] at hcc
          obtain ⟨⟨c1, rfl⟩, rfl⟩ := hcc
          refine call_wp hc.1 M h (hwl c.args) hnd ?_ hn
          have hfv : a.eval f = .func (.func g) #[] #[] := by rw [he, hev]; rfl
          simp only [execOp, ho, resolve, hf, hfv, Deferred.ofValue, Sem.run_bind, rp, Result.andThen_ok, invoke, hargs]
          rw [callable_run c1]
          simp
      · rename_i g xs ys hev
        cases hcc : callable P g with
        | false => rw [hcc] at h; cases h
        | true =>
          rw [hcc] at h
          have hwf := hw f
          rw [hev] at hwf
          simp only [AV.wf] at hwf
          refine call_wp hc.1 M h (fun v hv => ?_) hnd ?_ hn
          · rcases List.mem_append.1 hv with hv | hv
            · rcases List.mem_append.1 hv with hv | hv
              · exact (wfs_iff ρ n _).1 hwf.1 v hv
              · exact hwl c.args v hv
            · exact (wfs_iff ρ n _).1 hwf.2 v hv
          · have hfv : a.eval f = .func (.func g) ⟨xs.map (AV.conc ρ)⟩ ⟨ys.map (AV.conc ρ)⟩ := by rw [he, hev]; simp [AV.conc, concs_map]
            simp only [execOp, ho, resolve, hf, hfv, Deferred.ofValue, Sem.run_bind, rp, Result.andThen_ok, invoke, hargs]
            rw [callable_run hcc]
            congr 2
            apply Array.ext'
            simp
      · rename_i b hev
        obtain ⟨r', hr', rfl⟩ := Option.map_eq_some_iff.1 h
        obtain ⟨f', tmps, assign, body, hy, hR⟩ := hc.2.1 b _ H n r' hr' ro (k - 1) w0 out ρ w M (hwl c.args)
        have hfv : a.eval f = .func (.yield (ρ b).blk) #[] #[] := by rw [he, hev]; rfl
        refine ⟨fun _ _ => trivial, ?_⟩
        rw [semAt_eq hnd]
        have hrun : (execOp a.eval o).run P w = .ok (.round (ρ b).blk f' tmps assign body) w := by
          simp only [execOp, ho, resolve, hf, hfv, Deferred.ofValue, Sem.run_bind, rp, Result.andThen_ok, invoke, hargs]
          simpa using hy
        rw [hrun]
        refine ⟨fun e => (by cases e), RoundIn.mono hR ?_⟩
        rintro e w' ⟨ρ', rfl, hM, hρ, hle⟩
        exact hn ρ' w' hM hρ (by simp only [AV.wf]) hle
      · cases h
    · rename_i x m hf
      unfold xCallInv at h
      split at h
      · rename_i t v hev
        split at h
        · rename_i g hg
          have hwf := hw x
          rw [hev] at hwf
          simp only [AV.wf] at hwf
          refine call_wp hc.1 M h (fun u hu => ?_) hnd ?_ hn
          · rcases List.mem_cons.1 hu with rfl | hu
            · exact hwf
            · exact hwl c.args u hu
          · have hxv : a.eval x = .iface t (v.conc ρ) := by rw [he, hev]; rfl
            have hargs := map_ev he c.args
            unfold xMethod at hg
            split at hg
            · rename_i i e hi hu
              split at hg
              · rename_i mm hm
                split at hg
                · rename_i f' hp hfn
                  cases hcc : callable P f' with
                  | false => rw [hcc] at hg; cases hg
                  | true =>
                    rw [hcc] at hg
                    cases hg
                    have hmeth : ∀ k, (method (k + 1) t (v.conc ρ) m).run P w = .ok (g, v.conc ρ) w := fun k => by
                      simp only [method, Sem.run_bind, typeInfo, Result.andThen_ok]
                      simp [program, Sem.run, hi, hm, hp, hfn, follow, receiverAt, run_underlying hu, Place.get]
                    simp only [execOp, ho, resolve, hf, hxv, Sem.run_bind, rp, Result.andThen_ok, invoke, hargs]
                    have e0 : (#[Value.iface t (v.conc ρ)] ++ (⟨(c.args.toList.map ev).map (AV.conc ρ)⟩ : Array Value))[0]? = some (.iface t (v.conc ρ)) := by simp
                    have e1 : (#[Value.iface t (v.conc ρ)] ++ (⟨(c.args.toList.map ev).map (AV.conc ρ)⟩ : Array Value)).extract 1 (#[Value.iface t (v.conc ρ)] ++ (⟨(c.args.toList.map ev).map (AV.conc ρ)⟩ : Array Value)).size = ⟨(c.args.toList.map ev).map (AV.conc ρ)⟩ := by
                      apply Array.ext'; simp; exact List.take_of_length_le (by simp)
                    rw [e0]
                    simp only [e1, callMethod, Sem.run_bind]
                    have e2 : ∀ q : Program, q.types.size + Made.depth = (q.types.size + Made.depth - 1) + 1 := fun q => by unfold Made.depth; omega
                    simp only [program, Sem.run, Result.andThen_ok]
                    rw [e2 P, hmeth]
                    simp only [Result.andThen_ok]
                    rw [callable_run hcc]
                    congr 2
                    apply Array.ext'
                    simp
                · cases hg
              · cases hg
            · cases hg
        · cases h
      · cases h
    · rename_i hf
      refine eff_wp hnd (xAppend_ok (ty := o.type) M h (hwl c.args) ?_) hn
      simp only [execOp, ho, resolve, hf, Sem.run_bind, rp, Result.andThen_ok, invoke, builtin, map_ev he]
    · rename_i hf
      refine eff_wp hnd (xCopy_ok (ty := o.type) M h ?_) hn
      simp only [execOp, ho, resolve, hf, Sem.run_bind, rp, Result.andThen_ok, invoke, builtin, map_ev he]
    · rename_i hf
      obtain ⟨v, hv, rfl⟩ := Option.map_eq_some_iff.1 h
      obtain ⟨g1, g2⟩ := xSliceData_ok (P := P) (ρ := ρ) (n := n) (hwl c.args) hv c.argTypes o.type w
      refine eff_wp hnd (same ?_ g2 rfl) hn
      simp only [execOp, ho, resolve, hf, Sem.run_bind, rp, Result.andThen_ok, invoke, builtin, map_ev he, g1]
    · rename_i hf
      refine eff_wp hnd (xStrOf_ok (ty := o.type) M h ?_) hn
      simp only [execOp, ho, resolve, hf, Sem.run_bind, rp, Result.andThen_ok, invoke, builtin, map_ev he]
    · rename_i hf
      split at h
      · rename_i v hv
        cases h
        exact pureC hv rfl
      · obtain ⟨v, hv, rfl⟩ := Option.map_eq_some_iff.1 h
        obtain ⟨g1, g2⟩ := xLenMap_ok (ty := o.type) M hv
        refine eff_wp hnd (same ?_ g2 rfl) hn
        simp only [execOp, ho, resolve, hf, Sem.run_bind, rp, Result.andThen_ok, invoke, builtin, map_ev he, g1]
    · obtain ⟨v, hv, rfl⟩ := Option.map_eq_some_iff.1 h
      exact pureC hv rfl
  · rename_i sT dT x ho
    split at h
    · rename_i v hv
      cases h
      exact pure_case (by unfold xPure; rw [ho]; exact hv) rfl
    · obtain ⟨v, hv, rfl⟩ := Option.map_eq_some_iff.1 h
      obtain ⟨g1, g2⟩ := xConvPtr_ok M (hw x) hv
      refine eff_wp hnd (same ?_ g2 rfl) hn
      simp only [execOp, ho, he, Sem.run_bind, g1, Result.andThen_ok, rp]
  · rename_i op t x y yt ho
    split at h
    · rename_i v hv
      cases h
      exact pure_case (by unfold xPure; rw [ho]; exact hv) rfl
    · obtain ⟨v, hv, rfl⟩ := Option.map_eq_some_iff.1 h
      obtain ⟨g1, g2⟩ := xPtrEq_ok (ρ := ρ) (n := n) hv x y w
      refine eff_wp hnd (same ?_ g2 rfl) hn
      have e : execOp a.eval o = (do pure (.value (← (do eqGuard op t x y ((ev x).conc ρ) ((ev y).conc ρ); binOp op t ((ev x).conc ρ) ((ev y).conc ρ))))) := by
        simp only [execOp, ho, he]
      rw [e, Sem.run_bind, g1]
      rfl
  · obtain ⟨v, hv, rfl⟩ := Option.map_eq_some_iff.1 h
    exact pure_case hv rfl
end
end
end Cx
end Go.Proofs.YtcpkihikmpkdnaaGreatDoor
