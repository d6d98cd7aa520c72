/- A verified executor of closed calls, part 5: memory: what is read, what is made, what is written. A verified executor of closed calls, part 6: operations that make memory, and that write it. A verified executor of closed calls, part 7: append. A verified executor of closed calls, part 8: maps, copy, calls; all operations. A verified executor of closed calls, part 9: orders of a region that draws its order. -/
import Derived.Test.YtboondbognbnnaaGreatDoorQCA
import Derived.Laws.CopyRow
import Derived.Deep.AppendSrc
import Derived.Below
import Derived.MapKept
import Derived.Great.BuildSlice
import Derived.Laws.MakeOwn
import Derived.Deep.Upon
import Derived.Lib.AppendZerosOnto
import Derived.RangeFuncRecord
import Derived.OrdersIn
import Derived.TacticsIn
import Derived.LoopNIn
import Derived.Lib.Builder
import Derived.Lib.UnsafeStr
import Derived.DefersIn
set_option linter.unusedVariables false
set_option linter.unusedSimpArgs false
set_option linter.unusedVariables false
set_option linter.unusedSimpArgs false
namespace Go.Proofs.YtboondbognbnnaaGreatDoor
namespace Cx
noncomputable section
abbrev Hv := Nat → Option AO
def upd {β : Type} (f : Nat → β) (k : Nat) (x : β) : Nat → β := fun b => if b = k then x else f b
theorem upd_same {β : Type} (f : Nat → β) (k : Nat) (x : β) : upd f k x k = x := by simp [upd]
theorem upd_other {β : Type} (f : Nat → β) {k b : Nat} (x : β) (h : b ≠ k) : upd f k x b = f b := by simp [upd, h]
section
variable {P : Program} {w0 : World} {out : Nat → Prop} {G : Nat} {ρ : Env} {h : Hv} {n : Nat} {w : World}
theorem objOk_ext {ρ' : Env} {w' : World} {b : Nat} {o : AO} (hb : b < n) (hρ : ∀ b, b < n → ρ' b = ρ b) (hw : AO.wf ρ n o) (hh : w'.heap[(ρ b).blk]? = w.heap[(ρ b).blk]?) (H : ObjOk ρ w b o) : ObjOk ρ' w' b o := by
  cases o with
  | cells l e x =>
    obtain ⟨c, t, h1, h2, h3, h4, h5⟩ := H
    refine ⟨c, t, ?_, fun i v hv => ?_, ?_, ?_, by rw [hρ b hb]; exact h5⟩
    · rw [hρ b hb, hh]; exact h1
    · rw [hρ b hb, h2 i v hv, conc_ext hρ v ((wfs_iff ρ n l).1 hw v (List.mem_of_getElem? hv))]
    · rw [hρ b hb]; exact h3
    · rw [hρ b hb]; exact h4
  | map es clock =>
    simp only [ObjOk] at *
    have e : (es.map fun x => ({ key := x.1, val := x.2.1.conc ρ', born := x.2.2 } : MapEntry)) = es.map fun x => ({ key := x.1, val := x.2.1.conc ρ, born := x.2.2 } : MapEntry) :=
      List.map_congr_left fun x hx => by rw [conc_ext hρ x.2.1 (hw x hx)]
    rw [hρ b hb, hh, H, e]
  | loop busy sz T ps assign body =>
    obtain ⟨fn, tmps, d, h1, h2, h3⟩ := H
    exact ⟨fn, tmps, d, by rw [hρ b hb, hh]; exact h1, h2, fun t => by rw [h3 t, conc_ext hρ _ (hw t)]⟩
  | dfr =>
    simp only [ObjOk] at *
    rw [hρ b hb, hh, H]
theorem aoWf_ext {ρ' : Env} {m : Nat} {o : AO} (hρ : ∀ b, b < n → ρ' b = ρ b) (hm : n ≤ m) (hw : AO.wf ρ n o) : AO.wf ρ' m o := by
  cases o with
  | cells l e x => exact wfs_ext hρ hm l hw
  | map es clock => exact fun x hx => wf_ext hρ hm x.2.1 (hw x hx)
  | loop busy sz T ps assign body => exact fun t => wf_ext hρ hm _ (hw t)
  | dfr => trivial
theorem Mem.new (M : Mem w0 out G ρ h n w) {sp : Spot} {o' : Obj} {ao : AO} {w' : World} (hs : sp.blk = w.heap.size) (hw' : w'.heap = w.heap.push o') (hok : ObjOk (upd ρ n sp) w' n ao) (hwf : AO.wf (upd ρ n sp) (n + 1) ao) (he : SameEnv w w' := by exact ⟨rfl, rfl, rfl⟩) :
    Mem w0 out G (upd ρ n sp) (upd h n (some ao)) (n + 1) w' ∧ (∀ b, b < n → upd ρ n sp b = ρ b) := by
  have hρ : ∀ b, b < n → upd ρ n sp b = ρ b := fun b hb => upd_other _ _ (by omega)
  have hold : ∀ x, x < w.heap.size → w'.heap[x]? = w.heap[x]? := fun x hx => by rw [hw', Array.getElem?_push]; simp [show ¬ x = w.heap.size from by omega]
  have hsz : w'.heap.size = w.heap.size + 1 := by rw [hw']; simp
  refine ⟨⟨?_, ?_, ?_, ?_, ?_, ?_, ?_, by have := M.globs; omega, M.env.trans he⟩, hρ⟩
  · intro b o hb
    by_cases e : b = n
    · subst e
      rw [upd_same] at hb
      cases hb
      exact ⟨hok, hwf⟩
    · rw [upd_other _ _ e] at hb
      exact ⟨objOk_ext (M.lt b o hb) hρ (M.obj b o hb).2 (hold _ (M.blk b o hb)) (M.obj b o hb).1, aoWf_ext hρ (by omega) (M.obj b o hb).2⟩
  · intro b o hb
    by_cases e : b = n
    · omega
    · rw [upd_other _ _ e] at hb
      have := M.lt b o hb; omega
  · intro b o hb
    by_cases e : b = n
    · subst e; rw [upd_same]; omega
    · rw [upd_other _ _ e] at hb
      rw [hρ b (M.lt b o hb)]
      have := M.blk b o hb; omega
  · intro b b' o o2 hb hb' e
    by_cases e1 : b = n
    · by_cases e2 : b' = n
      · omega
      · rw [upd_other _ _ e2] at hb'
        subst e1
        rw [upd_same, hρ b' (M.lt b' o2 hb')] at e
        have := M.blk b' o2 hb'; omega
    · rw [upd_other _ _ e1] at hb
      by_cases e2 : b' = n
      · subst e2
        rw [upd_same, hρ b (M.lt b o hb)] at e
        have := M.blk b o hb; omega
      · rw [upd_other _ _ e2] at hb'
        rw [hρ b (M.lt b o hb), hρ b' (M.lt b' o2 hb')] at e
        exact M.inj b b' o o2 hb hb' e
  · intro c hc
    obtain ⟨h1, h2⟩ := M.outs c hc
    exact ⟨by omega, by rw [hold c h1]; exact h2⟩
  · intro b o hb
    by_cases e : b = n
    · subst e
      rw [upd_same]
      intro hc
      have := (M.outs _ hc).1; omega
    · rw [upd_other _ _ e] at hb
      rw [hρ b (M.lt b o hb)]
      exact M.apart b o hb
  · intro g hg
    have := M.globs
    rw [hρ g (by omega)]
    exact M.glob g hg
/-- a row that is written, or a map -/
theorem Mem.put (M : Mem w0 out G ρ h n w) {b : Nat} {ao ao' : AO} (hb : h b = some ao) {w' : World} (hok : ObjOk ρ w' b ao') (hwf : AO.wf ρ n ao') (ho : ∀ x, x ≠ (ρ b).blk → w'.heap[x]? = w.heap[x]?) (hsz : w'.heap.size = w.heap.size) (he : SameEnv w w' := by exact ⟨rfl, rfl, rfl⟩) :
    Mem w0 out G ρ (upd h b (some ao')) n w' := by
  refine ⟨?_, ?_, ?_, ?_, ?_, ?_, M.glob, M.globs, M.env.trans he⟩
  · intro c o hc
    by_cases e : c = b
    · subst e
      rw [upd_same] at hc
      cases hc
      exact ⟨hok, hwf⟩
    · rw [upd_other _ _ e] at hc
      refine ⟨objOk_ext (M.lt c o hc) (fun _ _ => rfl) (M.obj c o hc).2 (ho _ fun e' => e (M.inj c b o ao hc hb e')) (M.obj c o hc).1, (M.obj c o hc).2⟩
  · intro c o hc
    by_cases e : c = b
    · subst e; exact M.lt c ao hb
    · rw [upd_other _ _ e] at hc; exact M.lt c o hc
  · intro c o hc
    rw [hsz]
    by_cases e : c = b
    · subst e; exact M.blk c ao hb
    · rw [upd_other _ _ e] at hc; exact M.blk c o hc
  · intro c c' o o' hc hc' e
    have get : ∀ x y, upd h b (some ao') x = some y → ∃ z, h x = some z := fun x y hx => by
      by_cases e : x = b
      · subst e; exact ⟨_, hb⟩
      · rw [upd_other _ _ e] at hx; exact ⟨_, hx⟩
    obtain ⟨z, hz⟩ := get c o hc
    obtain ⟨z', hz'⟩ := get c' o' hc'
    exact M.inj c c' z z' hz hz' e
  · intro c hc
    obtain ⟨h1, h2⟩ := M.outs c hc
    refine ⟨by omega, ?_⟩
    rw [ho c fun e => M.apart b ao hb (e ▸ hc)]
    exact h2
  · intro c o hc
    by_cases e : c = b
    · subst e; exact M.apart c ao hb
    · rw [upd_other _ _ e] at hc; exact M.apart c o hc
/-- a name that nobody knows any more -/
theorem Mem.drop (M : Mem w0 out G ρ h n w) (b : Nat) : Mem w0 out G ρ (upd h b none) n w := by
  have get : ∀ {x y}, upd h b none x = some y → h x = some y := fun {x y} hx => by
    by_cases e : x = b
    · subst e; rw [upd_same] at hx; cases hx
    · rwa [upd_other _ _ e] at hx
  exact ⟨fun c o hc => M.obj c o (get hc), fun c o hc => M.lt c o (get hc), fun c o hc => M.blk c o (get hc), fun c c' o o' hc hc' => M.inj c c' o o' (get hc) (get hc'), M.outs, fun c o hc => M.apart c o (get hc), M.glob, M.globs, M.env⟩
theorem Mem.same_heap (M : Mem w0 out G ρ h n w) {w' : World} (hh : w'.heap = w.heap) (he : SameEnv w w' := by exact ⟨rfl, rfl, rfl⟩) : Mem w0 out G ρ h n w' :=
  ⟨fun b o hb => ⟨objOk_ext (M.lt b o hb) (fun _ _ => rfl) (M.obj b o hb).2 (by rw [hh]) (M.obj b o hb).1, (M.obj b o hb).2⟩, M.lt, fun b o hb => by rw [hh]; exact M.blk b o hb, M.inj, fun c hc => by rw [hh]; exact M.outs c hc, M.apart, M.glob, M.globs, M.env.trans he⟩
/-- a call has gone by that turned nothing that was there -/
theorem Mem.later (M : Mem w0 out G ρ h n w) {w' : World} (hb : RowKit.Below w.heap.size w w') : Mem w0 out G ρ h n w' :=
  ⟨fun b o hb' => ⟨objOk_ext (M.lt b o hb') (fun _ _ => rfl) (M.obj b o hb').2 (hb.block _ (M.blk b o hb')) (M.obj b o hb').1, (M.obj b o hb').2⟩, M.lt, fun b o hb' => Nat.lt_of_lt_of_le (M.blk b o hb') hb.size, M.inj,
   fun c hc => ⟨Nat.lt_of_lt_of_le (M.outs c hc).1 hb.size, (hb.block _ (M.outs c hc).1).trans (M.outs c hc).2⟩, M.apart, M.glob, M.globs, M.env.trans ⟨hb.os, hb.tape, hb.output⟩⟩
/-- a row that some callee has made goes by a new name -/
theorem Mem.made (M : Mem w0 out G ρ h n w) {w' : World} (hb : RowKit.Below w.heap.size w w') {sp : Spot} {ao : AO} (h1 : w.heap.size ≤ sp.blk) (h2 : sp.blk < w'.heap.size) (hok : ObjOk (upd ρ n sp) w' n ao) (hwf : AO.wf (upd ρ n sp) (n + 1) ao) :
    Mem w0 out G (upd ρ n sp) (upd h n (some ao)) (n + 1) w' ∧ (∀ b, b < n → upd ρ n sp b = ρ b) := by
  have hρ : ∀ b, b < n → upd ρ n sp b = ρ b := fun b hb => upd_other _ _ (by omega)
  have M' := M.later hb
  have old : ∀ {b o}, b ≠ n → upd h n (some ao) b = some o → h b = some o := fun {b o} e hb => by rw [upd_other _ _ e] at hb; exact hb
  refine ⟨⟨?_, ?_, ?_, ?_, M'.outs, ?_, ?_, by have := M.globs; omega, M'.env⟩, hρ⟩
  · intro b o hb
    by_cases e : b = n
    · subst e; rw [upd_same] at hb; cases hb; exact ⟨hok, hwf⟩
    · have hb := old e hb
      exact ⟨objOk_ext (M.lt b o hb) hρ (M.obj b o hb).2 rfl (M'.obj b o hb).1, aoWf_ext hρ (by omega) (M.obj b o hb).2⟩
  · intro b o hb
    by_cases e : b = n
    · omega
    · have := M.lt b o (old e hb); omega
  · intro b o hb
    by_cases e : b = n
    · subst e; rw [upd_same]; exact h2
    · have hb := old e hb
      rw [hρ b (M.lt b o hb)]; exact M'.blk b o hb
  · intro b b' o o2 hb hb' e
    by_cases e1 : b = n
    · by_cases e2 : b' = n
      · omega
      · have g := old e2 hb'
        subst e1
        rw [upd_same, hρ b' (M.lt b' o2 g)] at e
        have := M.blk b' o2 g; omega
    · have k := old e1 hb
      by_cases e2 : b' = n
      · subst e2
        rw [upd_same, hρ b (M.lt b o k)] at e
        have := M.blk b o k; omega
      · have g := old e2 hb'
        rw [hρ b (M.lt b o k), hρ b' (M.lt b' o2 g)] at e
        exact M.inj b b' o o2 k g e
  · intro b o hb
    by_cases e : b = n
    · subst e
      rw [upd_same]
      intro hc
      have := (M.outs _ hc).1; omega
    · have hb := old e hb
      rw [hρ b (M.lt b o hb)]
      exact M.apart b o hb
  · intro g hg
    have := M.globs
    rw [hρ g (by omega)]
    exact M.glob g hg
/-! ### loads -/
def CellsAt (ρ : Env) (w : World) (b o : Nat) (vs : List AV) : Prop := ∀ (i : Nat) (v : AV), vs[i]? = some v → w.cell? ⟨(ρ b).blk, (ρ b).base + (o + i), none⟩ = some (v.conc ρ)
def AV.single : AV → Bool
  | .lit v => v.oneCell'
  | .agg _ => false
  | .tup _ => false
  | .mrk _ => false
  | _ => true
theorem single_one {v : AV} (h : v.single = true) : (v.conc ρ).oneCell' = true := by
  cases v <;> first | exact h | rfl | (simp [AV.single] at h)
/-- what is loaded: where, and the value -/
def xLoad (P : Program) (h : Hv) (t : TypeId) (x : AV) : Option AV :=
  match x with
  | .ptr b o => match h b with
    | some (.cells l _ _) => match aAgg P t with
      | some true => match aSize P t with
        | some k => (takeN k (l.drop o)).map .agg
        | none => none
      | some false => match l[o]? with
        | some v => bif v.single then some v else none
        | none => none
      | none => none
    | _ => none
  | _ => none
theorem Mem.cellsAt (M : Mem w0 out G ρ h n w) {b e : Nat} {l : List AV} {x : TypeId × Bool} (hb : h b = some (.cells l e x)) (o : Nat) (vs : List AV) (hv : ∀ (i : Nat) (v : AV), vs[i]? = some v → l[o + i]? = some v) : CellsAt ρ w b o vs := by
  obtain ⟨⟨c, t, h1, h2, _, _, _⟩, _⟩ := M.obj b _ hb
  intro i v hi
  have := h2 _ _ (hv i v hi)
  simp [World.cell?, h1, this]
theorem xLoad_ok {t : TypeId} {x v : AV} (hl : xLoad P h t x = some v) : ∃ b o, x = .ptr b o ∧ (∀ w', CellsAt ρ w' b o v.cells → (Instr.loadAt t (x.conc ρ)).run P w' = .ok (v.conc ρ) w') ∧
    (∀ w', Mem w0 out G ρ h n w' → CellsAt ρ w' b o v.cells ∧ v.wf ρ n) := by
  unfold xLoad at hl
  split at hl
  · rename_i b o
    refine ⟨b, o, rfl, ?_⟩
    split at hl
    · rename_i l e x hb
      split at hl
      · rename_i ha
        split at hl
        · rename_i k hk
          obtain ⟨r, hr, rfl⟩ := Option.map_eq_some_iff.1 hl
          obtain ⟨h1, rfl⟩ := takeN_eq hr
          refine ⟨fun w' hc => ?_, fun w' M => ⟨M.cellsAt hb o _ fun i v hv => ?_, ?_⟩⟩
          · have hlen : ((l.drop o).take k).length = k := by simp at h1 ⊢; omega
            have hrun := run_loadCells_list (P := P) w' ⟨(ρ b).blk, (ρ b).base + o, none⟩ (((l.drop o).take k).map (AV.conc ρ)) (fun j v hv => by
              rw [add_off, Nat.add_assoc]
              rw [List.getElem?_map] at hv
              obtain ⟨u, hu, rfl⟩ := Option.map_eq_some_iff.1 hv
              exact hc j u hu)
            rw [List.length_map, hlen] at hrun
            simp only [Instr.loadAt, AV.conc, Instr.sureAddr, Sem.run_bind, rp, Result.andThen_ok, loadVar, run_agg ha, if_true, run_size hk, hrun, concs_map]
          · simp only [AV.cells] at hv
            rw [List.getElem?_take] at hv
            split at hv
            · rwa [List.getElem?_drop] at hv
            · cases hv
          · have := (M.obj b _ hb).2
            exact (wfs_iff ρ n _).2 fun v hv => (wfs_iff ρ n l).1 this v (List.mem_of_mem_drop (List.mem_of_mem_take hv))
        · cases hl
      · rename_i ha
        split at hl
        · rename_i v' hv'
          cases hs : v'.single with
          | false => rw [hs] at hl; cases hl
          | true =>
            rw [hs] at hl
            cases hl
            have hcell : v.cells = [v] := by cases v <;> first | rfl | (simp [AV.single] at hs)
            refine ⟨fun w' hc => ?_, fun w' M => ⟨M.cellsAt hb o _ fun i v hv => ?_, ?_⟩⟩
            · have := hc 0 v (by rw [hcell]; rfl)
              simp only [Instr.loadAt, AV.conc, Instr.sureAddr, Sem.run_bind, rp, Result.andThen_ok, loadVar, run_agg ha, Bool.false_eq_true, if_false]
              simp only [load, Sem.run]
              rw [Nat.add_zero] at this
              rw [this]
            · rw [hcell] at hv
              cases i with
              | zero => simp at hv; subst hv; exact hv'
              | succ i => simp at hv
            · exact (wfs_iff ρ n l).1 (M.obj b _ hb).2 v (List.mem_of_getElem? hv')
        · cases hl
      · cases hl
    · cases hl
  · cases hl
end
end
end Cx
end Go.Proofs.YtboondbognbnnaaGreatDoor

set_option linter.unusedVariables false
set_option linter.unusedSimpArgs false
namespace Go.Proofs.YtboondbognbnnaaGreatDoor
namespace Cx
noncomputable section
def hv (H : Hp) : Hv := fun b => Tr.get 20 H b
theorem hv_set (H : Hp) (k : Nat) (x : Option AO) (hk : k + 1 < 1048576) : hv (Tr.set 20 H k x) = upd (hv H) k x := by
  funext b
  unfold hv upd
  rw [Tr.get_set 20 H k b x hk]
/-- what an operation with an effect leaves -/
def Eff (w0 : World) (out : Nat → Prop) (G : Nat) (ρ : Env) (n : Nat) (r : AV × Hp × Nat) (res : Result Next) : Prop :=
  ∃ ρ' w', (res = .ok (.value (r.1.conc ρ')) w' ∨ (res = .ok .skip w' ∧ r.1 = .lit undef)) ∧ Mem w0 out G ρ' (hv r.2.1) r.2.2 w' ∧ (∀ b, b < n → ρ' b = ρ b) ∧ r.1.wf ρ' r.2.2 ∧ n ≤ r.2.2
section
variable {P : Program} {w0 : World} {out : Nat → Prop} {G : Nat} {ρ : Env} {H : Hp} {n : Nat} {w : World}
/-- a new row -/
def xRow (H : Hp) (n : Nat) (l : List AV) (e : Nat) (x : TypeId × Bool) (v : AV) : Option (AV × Hp × Nat) :=
  bif Nat.blt (n + 1) 1048576 then some (v, Tr.set 20 H n (some (.cells l e x)), n + 1) else none
theorem xRow_ok (M : Mem w0 out G ρ (hv H) n w) {l : List AV} {e room : Nat} {x : TypeId × Bool} {v : AV} {r : AV × Hp × Nat} (hx : xRow H n l e x v = some r) (hl : AV.wfs ρ n l) (hlen : l.length = room * e) (t : TypeId) (hxt : t = x.1) {c : Array Value} (hc : c = ⟨l.map (AV.conc ρ)⟩)
    (hv' : v.wf (upd ρ n ⟨w.heap.size, 0, room⟩) (n + 1)) {res : Result Next} (hres : res = .ok (.value (v.conc (upd ρ n ⟨w.heap.size, 0, room⟩))) (w.alloc (.cells c t))) : Eff w0 out G ρ n r res := by
  unfold xRow at hx
  by_cases hb : Nat.blt (n + 1) 1048576 = true
  · rw [hb] at hx
    cases hx
    have hb' : n + 1 < 1048576 := by simpa [Nat.blt_eq] using hb
    have hρ : ∀ b, b < n → upd ρ n ⟨w.heap.size, 0, room⟩ b = ρ b := fun b hb => upd_other _ _ (by omega)
    have hw' : (w.alloc (.cells c t)).heap = w.heap.push (.cells c t) := rfl
    have hok : ObjOk (upd ρ n ⟨w.heap.size, 0, room⟩) (w.alloc (.cells c t)) n (.cells l e x) := by
      refine ⟨c, t, by rw [upd_same, hw', Array.getElem?_push]; simp, fun i u hu => ?_, by rw [upd_same]; show l.length ≤ room * e; omega, by rw [upd_same, hc]; show 0 + room * e ≤ _; simp; omega, hxt, by rw [upd_same], fun _ => by rw [hc]; simp⟩
      rw [upd_same, hc, Nat.zero_add]
      rw [conc_ext hρ u ((wfs_iff ρ n l).1 hl u (List.mem_of_getElem? hu))]
      simp [hu]
    obtain ⟨h1, h2⟩ := M.new (sp := ⟨w.heap.size, 0, room⟩) rfl hw' hok (wfs_ext hρ (by omega) l hl)
    refine ⟨_, _, .inl hres, ?_, h2, hv', by show n ≤ n + 1; omega⟩
    show Mem w0 out G _ (hv (Tr.set 20 H n _)) _ _
    rw [hv_set H n _ hb']
    exact h1
  · rw [Bool.eq_false_iff.2 hb] at hx; cases hx
theorem run_newRow (w : World) (t : TypeId) (c : Array Value) : (newRow t c).run P w = .ok ⟨w.heap.size, 0, none⟩ (w.alloc (.cells c t)) := rfl
def xAlloc (P : Program) (H : Hp) (n : Nat) (t : TypeId) : Option (AV × Hp × Nat) :=
  match aZero P t with
  | some z => xRow H n z.cells z.cells.length (t, true) (.ptr n 0)
  | none => none
theorem xAlloc_ok (M : Mem w0 out G ρ (hv H) n w) {t : TypeId} {r : AV × Hp × Nat} (h : xAlloc P H n t = some r) {a : Act} {o : Oper} (ho : o.op = .alloc t) : Eff w0 out G ρ n r ((execOp a.eval o).run P w) := by
  unfold xAlloc at h
  split at h
  · rename_i z hz
    obtain ⟨hzp, hzw⟩ := zero_plain hz
    refine xRow_ok M (room := 1) h (wf_cells (hzw ρ n)) (by omega) t rfl rfl (by simp only [AV.wf]; omega) ?_
    simp only [execOp, ho, Sem.run_bind, Instr.alloc, run_zero (ρ := ρ) hz w, Result.andThen_ok, newVar, conc_cells ρ hzp, run_newRow, rp, AV.conc, upd_same]
  · cases h
def xBox (H : Hp) (n : Nat) (t : TypeId) (x : AV) : Option (AV × Hp × Nat) :=
  bif x.plain then xRow H n x.cells x.cells.length (t, true) (.ptr n 0) else none
theorem xBox_ok (M : Mem w0 out G ρ (hv H) n w) {t : TypeId} {x : AV} {r : AV × Hp × Nat} (h : xBox H n t x = some r) (hx : x.wf ρ n) {a : Act} {o : Oper} {xo : Operand} (ho : o.op = .box t xo) (he : a.eval xo = x.conc ρ) : Eff w0 out G ρ n r ((execOp a.eval o).run P w) := by
  unfold xBox at h
  cases hp : x.plain with
  | false => rw [hp] at h; cases h
  | true =>
    rw [hp] at h
    refine xRow_ok M (room := 1) h (wf_cells hx) (by omega) t rfl rfl (by simp only [AV.wf]; omega) ?_
    simp only [execOp, ho, Sem.run_bind, Instr.box, Result.andThen_ok, newVar, he, conc_cells ρ hp, run_newRow, rp, AV.conc, upd_same]
/-- some cells, so many times -/
def repL {α : Type} : Nat → List α → List α
  | 0, _ => []
  | k + 1, l => l ++ repL k l
theorem repL_len {α : Type} (l : List α) : ∀ k, (repL k l).length = k * l.length
  | 0 => by simp [repL]
  | k + 1 => by simp [repL, repL_len l k, Nat.succ_mul]; omega
theorem repL_mem {α : Type} {l : List α} {x : α} : ∀ {k}, x ∈ repL k l → x ∈ l
  | 0, h => by cases h
  | k + 1, h => by
    rcases List.mem_append.1 h with h | h
    · exact h
    · exact repL_mem h
theorem repL_get {α : Type} (l : List α) : ∀ (k i : Nat), i < k * l.length → (repL k l)[i]? = l[i % l.length]?
  | 0, i, h => by omega
  | k + 1, i, h => by
    simp only [repL]
    by_cases hi : i < l.length
    · rw [List.getElem?_append_left hi, Nat.mod_eq_of_lt hi]
    · have hpos : 0 < l.length := by
        rcases Nat.eq_zero_or_pos l.length with e | e
        · rw [e] at h; omega
        · exact e
      rw [List.getElem?_append_right (by omega), repL_get l k (i - l.length) (by rw [Nat.succ_mul] at h; omega)]
      congr 1
      rw [← Nat.mod_eq_sub_mod (by omega)]
theorem rep_array {ρ : Env} (l : List AV) (k : Nat) : (Array.range (k * l.length)).map ((⟨l.map (AV.conc ρ)⟩ : Array Value)[· % (⟨l.map (AV.conc ρ)⟩ : Array Value).size]!) = ⟨(repL k l).map (AV.conc ρ)⟩ := by
  apply Array.ext
  · simp [repL_len]
  · intro i h1 h2
    have hi : i < k * l.length := by simpa using h1
    have hg := repL_get l k i hi
    have hpos : 0 < l.length := by
      rcases Nat.eq_zero_or_pos l.length with e | e
      · rw [e] at hi; omega
      · exact e
    have hm : i % l.length < l.length := Nat.mod_lt _ hpos
    rw [List.getElem?_eq_getElem (by rw [repL_len]; exact hi), List.getElem?_eq_getElem hm] at hg
    simp only [Option.some.injEq] at hg
    simp [hg, hm]
def sliceElem (P : Program) (t : TypeId) : Option TypeId := match P.underlying t with
  | some (.slice e) => some e
  | _ => none
theorem sliceElem_eq {t e : TypeId} (h : sliceElem P t = some e) : P.underlying t = some (.slice e) := by
  unfold sliceElem at h
  split at h
  · cases h; assumption
  · cases h
/-- an element type: its size, its zero's cells (as many) -/
def elemZero (P : Program) (e : TypeId) : Option (TypeInfo × List AV) := match P.info? e with
  | some i => match i.zero with
    | some z => bif (litAgg z).cells.length.beq i.size && Nat.blt 0 i.size then some (i, (litAgg z).cells) else none
    | none => none
  | none => none
theorem elemZero_eq {e : TypeId} {i : TypeInfo} {zs : List AV} (h : elemZero P e = some (i, zs)) : ∃ z, P.info? e = some i ∧ i.zero = some z ∧ zs = (litAgg z).cells ∧ zs.length = i.size ∧ 0 < i.size ∧ (∀ ρ, z.cells = ⟨zs.map (AV.conc ρ)⟩) ∧ ∀ ρ n, AV.wfs ρ n zs := by
  unfold elemZero at h
  split at h
  · rename_i i' hi
    split at h
    · rename_i z hz
      cases hb : ((litAgg z).cells.length.beq i'.size && Nat.blt 0 i'.size) with
      | false => rw [hb] at h; cases h
      | true =>
        rw [hb] at h
        cases h
        rw [Bool.and_eq_true] at hb
        refine ⟨z, hi, hz, rfl, Nat.eq_of_beq_eq_true hb.1, by simpa [Nat.blt_eq] using hb.2, fun ρ => ?_, fun ρ n => wf_cells (wf_litAgg ρ n z)⟩
        rw [← conc_cells ρ (plain_litAgg z), conc_litAgg]
    · cases h
  · cases h
def xBuildSlice (P : Program) (H : Hp) (n : Nat) (t : TypeId) (len : Nat) (ps : List (Nat × AV)) : Option (AV × Hp × Nat) :=
  match sliceElem P t with
  | none => none
  | some e => match elemZero P e with
    | none => none
    | some (i, zs) => bif len.beq 0 && ps.isEmpty then xRow H n [] i.size (e, true) (.slc n 0 0 0 0 (some 0)) else bif Nat.blt 0 len && Nat.ble (len * i.size) 16777216 then (match xFill (fun k => some (k * i.size, i.size)) (repL len zs) ps with
      | some l => xRow H n l i.size (e, true) (.slc n 0 0 0 len (some len))
      | none => none) else none
theorem xBuildSlice_ok (M : Mem w0 out G ρ (hv H) n w) {t : TypeId} {len : Nat} {ps : List (Nat × AV)} {r : AV × Hp × Nat} (h : xBuildSlice P H n t len ps = some r) (hp : ∀ p ∈ ps, p.2.wf ρ n) {res : Result Next}
    (hres : res = ((Instr.buildSlice t len ⟨ps.map fun p => (p.1, p.2.conc ρ)⟩).run P w).andThen fun v w' => .ok (.value v) w') : Eff w0 out G ρ n r res := by
  unfold xBuildSlice at h
  split at h
  · cases h
  · rename_i e he
    have hu := sliceElem_eq he
    split at h
    · cases h
    · rename_i i zs hz
      obtain ⟨z, hi, hz1, rfl, hz3, hz4, hz5, hz6⟩ := elemZero_eq hz
      cases hb0 : (len.beq 0 && ps.isEmpty) with
      | true =>
        rw [hb0] at h
        rw [Bool.and_eq_true] at hb0
        have hl0 := Nat.eq_of_beq_eq_true hb0.1
        have hp0 : ps = [] := by simpa using hb0.2
        subst hl0
        subst hp0
        refine xRow_ok M (room := 0) h (by simp only [AV.wfs]) (by simp) e rfl rfl ?_ ?_
        · simp only [AV.wf]
          exact ⟨by omega, fun e => (by cases e), fun k e => (by cases e; omega)⟩
        · rw [hres]
          simp [Instr.buildSlice, run_underlying hu, sizeOf, typeInfo, hi, Instr.fill, newRow, AV.conc, capOf, upd_same, Array.range_zero']
      | false =>
      rw [hb0] at h
      simp only [cond_false] at h
      cases hb : (Nat.blt 0 len && Nat.ble (len * i.size) 16777216) with
      | false => rw [hb] at h; cases h
      | true =>
        rw [hb] at h
        simp only [cond_true] at h
        rw [Bool.and_eq_true] at hb
        have hb1 : 0 < len := by simpa [Nat.blt_eq] using hb.1
        have hb2 : len * i.size ≤ 16777216 := by simpa using hb.2
        split at h
        · rename_i l hf
          obtain ⟨g1, g2, g3⟩ := xFill_ok (ρ := ρ) (n := n) hf ((wfs_iff ρ n _).2 fun v hv => (wfs_iff ρ n _).1 (hz6 ρ n) v (repL_mem hv)) hp
          have hlen : l.length = len * i.size := by rw [g3, repL_len, hz3]
          refine xRow_ok M (room := len) h g2 hlen e rfl rfl ?_ ?_
          · simp only [AV.wf]
            exact ⟨by omega, fun e => (by cases e), fun k e => (by cases e; omega)⟩
          · rw [hres]
            have hra := rep_array (ρ := ρ) (litAgg z).cells len
            rw [hz3, ← hz5 ρ] at hra
            rw [run_buildSlice w t e len _ ⟨l.map (AV.conc ρ)⟩ i z hu hi hz1 (by omega) (by have := Nat.mul_pos hb1 hz4; omega) (by rw [hra]; exact g1)]
            simp [AV.conc, capOf, upd_same]
        · cases h
def xMakeSlice (P : Program) (H : Hp) (n : Nat) (t : TypeId) (l c : AV) : Option (AV × Hp × Nat) :=
  match sliceElem P t with
  | none => none
  | some e => match elemZero P e, optNat (some l), optNat (some c) with
    | some (i, zs), some (some l), some (some c) => bif Nat.ble l c && Nat.ble (c * i.size) 16777216 && Nat.ble (c * i.bytes) 16777216 && Nat.ble c 16777216 then xRow H n (repL c zs) i.size (e, true) (.slc n 0 0 0 l (some c)) else none
    | _, _, _ => none
theorem xMakeSlice_ok (M : Mem w0 out G ρ (hv H) n w) {t : TypeId} {l c : AV} {r : AV × Hp × Nat} (h : xMakeSlice P H n t l c = some r) {res : Result Next}
    (hres : res = ((Instr.makeSlice t (l.conc ρ) (c.conc ρ)).run P w).andThen fun v w' => .ok (.value v) w') : Eff w0 out G ρ n r res := by
  unfold xMakeSlice at h
  split at h
  · cases h
  · rename_i e he
    have hu := sliceElem_eq he
    split at h
    · rename_i i zs l' c' hz hl hc
      obtain ⟨z, hi, hz1, rfl, hz3, hz4, hz5, hz6⟩ := elemZero_eq hz
      obtain ⟨kl, el⟩ := optNat_eq (ρ := ρ) hl
      obtain ⟨kc, ec⟩ := optNat_eq (ρ := ρ) hc
      simp only [Option.map_some, Option.some.injEq] at el ec
      cases hb : (Nat.ble l' c' && Nat.ble (c' * i.size) 16777216 && Nat.ble (c' * i.bytes) 16777216 && Nat.ble c' 16777216) with
      | false => rw [hb] at h; cases h
      | true =>
        rw [hb] at h
        simp only [cond_true] at h
        simp only [Bool.and_eq_true, Nat.ble_eq] at hb
        obtain ⟨⟨⟨b1, b2⟩, b3⟩, b4⟩ := hb
        refine xRow_ok M (room := c') h ((wfs_iff ρ n _).2 fun v hv => (wfs_iff ρ n _).1 (hz6 ρ n) v (repL_mem hv)) (by rw [repL_len, hz3]) e rfl rfl ?_ ?_
        · simp only [AV.wf]
          exact ⟨by omega, fun e => (by cases e), fun k e => (by cases e; omega)⟩
        · rw [hres, el, ec]
          have hra := rep_array (ρ := ρ) (litAgg z).cells c'
          rw [hz3, ← hz5 ρ] at hra
          have hby : (i.bytes : Int) * (c' : Int) ≤ 281474976710656 := by
            have : ((i.bytes * c' : Nat) : Int) ≤ 281474976710656 := by rw [Nat.mul_comm]; omega
            simpa using this
          rw [run_makeSlice w t e i z hu hi hz1 kl kc (l' : Int) (c' : Int) (by omega) (by omega) (by simpa using b2) hby (by omega)]
          simp only [Int.toNat_natCast, Result.andThen_ok, AV.conc, capOf, upd_same, ite_self, Nat.add_zero]
          unfold madeCells
          rw [hra]
    · cases h
def xMakeMap (P : Program) (H : Hp) (n : Nat) (t : TypeId) (r : Option AV) : Option (AV × Hp × Nat) :=
  match r, P.underlying t with
  | none, _ => bif Nat.blt (n + 1) 1048576 then some (.mp n, Tr.set 20 H n (some (.map [] 0)), n + 1) else none
  | some (.lit (.int _ _)), some (.map _ _) => bif Nat.blt (n + 1) 1048576 then some (.mp n, Tr.set 20 H n (some (.map [] 0)), n + 1) else none
  | _, _ => none
theorem makeMap_eff (M : Mem w0 out G ρ (hv H) n w) {r : AV × Hp × Nat} (h : (bif Nat.blt (n + 1) 1048576 then some (AV.mp n, Tr.set 20 H n (some (.map [] 0)), n + 1) else none) = some r) {res : Result Next}
    (hres : res = .ok (.value (.map (some w.heap.size))) (w.alloc (.map #[] 0))) : Eff w0 out G ρ n r res := by
  by_cases hb : Nat.blt (n + 1) 1048576 = true
  · rw [hb] at h
    cases h
    have hb' : n + 1 < 1048576 := by simpa [Nat.blt_eq] using hb
    have hw' : (w.alloc (.map #[] 0)).heap = w.heap.push (.map #[] 0) := rfl
    obtain ⟨h1, h2⟩ := M.new (sp := ⟨w.heap.size, 0, 0⟩) (ao := .map [] 0) rfl hw' (by simp only [ObjOk]; rw [upd_same, hw', Array.getElem?_push]; simp) (fun x hx => by cases hx)
    refine ⟨_, w.alloc (.map #[] 0), .inl (hres.trans (by simp [AV.conc, upd_same])), ?_, h2, by simp only [AV.wf]; omega, by show n ≤ n + 1; omega⟩
    show Mem w0 out G _ (hv (Tr.set 20 H n _)) _ _
    rw [hv_set H n _ hb']
    exact h1
  · rw [Bool.eq_false_iff.2 hb] at h; cases h
theorem xMakeMap_ok (M : Mem w0 out G ρ (hv H) n w) {t : TypeId} {x : Option AV} {r : AV × Hp × Nat} (h : xMakeMap P H n t x = some r) {res : Result Next}
    (hres : res = ((Instr.makeMap t (x.map (AV.conc ρ))).run P w).andThen fun v w' => .ok (.value v) w') : Eff w0 out G ρ n r res := by
  unfold xMakeMap at h
  split at h
  · refine makeMap_eff M h (hres.trans ?_)
    rfl
  · rename_i k i kt et hu
    refine makeMap_eff M h (hres.trans ?_)
    simp only [Instr.makeMap, Option.map_some, AV.conc, Sem.run_bind, run_underlying hu, Result.andThen_ok, asInt, asIntOf, rp]
    rfl
  · cases h
/-! ### stores -/
def xStore (P : Program) (H : Hp) (n : Nat) (t : TypeId) (x v : AV) : Option (AV × Hp × Nat) :=
  match x with
  | .ptr b o => match hv H b, aSize P t with
    | some (.cells l e x), some k => bif v.plain && v.cells.length.beq k && v.cells.all AV.single && Nat.blt (b + 1) 1048576 then (match splice l o v.cells with
      | some l' => some (.lit undef, Tr.set 20 H b (some (.cells l' e x)), n)
      | none => none) else none
    | _, _ => none
  | _ => none
theorem all_one {vs : List AV} (h : vs.all AV.single = true) : ∀ u ∈ vs.map (AV.conc ρ), u.oneCell' = true := fun u hu => by
  obtain ⟨v, hv, rfl⟩ := List.mem_map.1 hu
  exact single_one (List.all_eq_true.1 h v hv)
theorem row_put {c : Array Value} {l vs l' : List AV} {base o : Nat} (h2 : ∀ (i : Nat) (v : AV), l[i]? = some v → c[base + i]? = some (v.conc ρ)) (hs : splice l o vs = some l') (hsz : base + o + vs.length ≤ c.size) :
    ∀ (i : Nat) (v : AV), l'[i]? = some v → (c.toList.take (base + o) ++ vs.map (AV.conc ρ) ++ c.toList.drop (base + o + (vs.map (AV.conc ρ)).length)).toArray[base + i]? = some (v.conc ρ) := by
  intro i v hv
  rw [splice_get hs] at hv
  rw [List.getElem?_toArray]
  by_cases h1 : i < o
  · rw [if_neg (by omega)] at hv
    rw [List.append_assoc, List.getElem?_append_left (by simp; omega), List.getElem?_take, if_pos (by omega), Array.getElem?_toList]
    exact h2 i v hv
  · by_cases h3 : i < o + vs.length
    · rw [if_pos ⟨by omega, h3⟩] at hv
      rw [List.append_assoc, List.getElem?_append_right (by simp; omega)]
      have e : base + i - (c.toList.take (base + o)).length = i - o := by simp; omega
      rw [e, List.getElem?_append_left (by simp; omega), List.getElem?_map, hv]
      rfl
    · rw [if_neg (by omega)] at hv
      rw [List.getElem?_append_right (by simp; omega), List.getElem?_drop, Array.getElem?_toList]
      have e : base + o + (vs.map (AV.conc ρ)).length + (base + i - (c.toList.take (base + o) ++ vs.map (AV.conc ρ)).length) = base + i := by simp; omega
      rw [e]
      exact h2 i v hv
theorem row_size {c : Array Value} {vs : List Value} {k : Nat} (hsz : k + vs.length ≤ c.size) : (c.toList.take k ++ vs ++ c.toList.drop (k + vs.length)).toArray.size = c.size := by
  simp; omega
/-- a row some cells of which are written over -/
theorem Mem.splice (M : Mem w0 out G ρ (hv H) n w) {b e o : Nat} {l vs l' : List AV} {x : TypeId × Bool} (hb : hv H b = some (.cells l e x)) (hs : splice l o vs = some l') (hw : AV.wfs ρ n vs) (h1 : vs.all AV.single = true) (hb1 : b + 1 < 1048576) :
    ∃ w', (storeCells ⟨(ρ b).blk, (ρ b).base + o, none⟩ (vs.map (AV.conc ρ))).run P w = .ok () w' ∧ Mem w0 out G ρ (hv (Tr.set 20 H b (some (.cells l' e x)))) n w' := by
  obtain ⟨⟨c, t, hc, h2, h3, h4, h5⟩, hwf⟩ := M.obj b _ hb
  obtain ⟨hle, _⟩ := splice_eq hs
  obtain ⟨hwf', hlen'⟩ := splice_wf hs hwf hw
  have hsz : (ρ b).base + o + vs.length ≤ c.size := by
    rcases Nat.eq_zero_or_pos l.length with e0 | e0
    · have h5 : (ρ b).base + l.length ≤ c.size := by omega
      omega
    · have h5 : (ρ b).base + l.length ≤ c.size := by omega
      omega
  have hrun := run_storeCells_at (P := P) (ρ b).blk ((ρ b).base + o) t (vs.map (AV.conc ρ)) 0 c w hc (by simpa using hsz) (all_one h1)
  rw [Nat.add_zero] at hrun
  refine ⟨_, hrun, ?_⟩
  rw [hv_set H b _ hb1]
  refine M.put hb ?_ hwf' (fun x hx => setRow_other w _ x _ hx) (size_setRow _ _ _)
  refine ⟨_, t, setRow_heap w _ c _ t (0, 0) hc, row_put h2 hs hsz, by omega, ?_, ?_⟩
  · rw [row_size (by simpa using hsz)]
    exact h4
  · rw [row_size (by simpa using hsz), hlen']
    exact h5
theorem xStore_ok (M : Mem w0 out G ρ (hv H) n w) {t : TypeId} {x v : AV} {r : AV × Hp × Nat} (h : xStore P H n t x v = some r) (hw : v.wf ρ n) {a : Act} {o : Oper} {xo vo : Operand} (ho : o.op = .store t xo vo) (hx : a.eval xo = x.conc ρ) (hv' : a.eval vo = v.conc ρ) :
    Eff w0 out G ρ n r ((execOp a.eval o).run P w) := by
  unfold xStore at h
  split at h
  · rename_i b o'
    split at h
    · rename_i l e x k hb hk
      cases hc : (v.plain && v.cells.length.beq k && v.cells.all AV.single && Nat.blt (b + 1) 1048576) with
      | false => rw [hc] at h; cases h
      | true =>
        rw [hc] at h
        simp only [cond_true] at h
        simp only [Bool.and_eq_true] at hc
        obtain ⟨⟨⟨c1, c2⟩, c3⟩, c4⟩ := hc
        have c2 := Nat.eq_of_beq_eq_true c2
        have c4 : b + 1 < 1048576 := by simpa [Nat.blt_eq] using c4
        split at h
        · rename_i l' hs
          cases h
          obtain ⟨w', hrun, hM⟩ := M.splice (P := P) hb hs (wf_cells hw) c3 c4
          refine ⟨ρ, w', .inr ⟨?_, rfl⟩, hM, fun _ _ => rfl, by simp only [AV.wf], Nat.le_refl _⟩
          simp only [execOp, ho, Sem.run_bind, Instr.storeAt, hx, hv', AV.conc, Instr.sureAddr, rp, Result.andThen_ok, storeVar, run_size hk, conc_cells ρ c1]
          rw [if_neg (by simp [c2])]
          simp only [Sem.run_bind, rp, Result.andThen_ok, hrun]
        · cases h
    · cases h
  · cases h
end
end
end Cx
end Go.Proofs.YtboondbognbnnaaGreatDoor

set_option linter.unusedVariables false
set_option linter.unusedSimpArgs false
namespace Go.Proofs.YtboondbognbnnaaGreatDoor
namespace Cx
noncomputable section
section
variable {P : Program} {w0 : World} {out : Nat → Prop} {G : Nat} {ρ : Env} {H : Hp} {n : Nat} {w : World}
/-- a row that goes by a new name from now on -/
theorem Mem.move {h : Hv} (M : Mem w0 out G ρ h n w) {b : Nat} {ao ao' : AO} (hb : h b = some ao) {sp : Spot} (hs : sp.blk = (ρ b).blk) {w' : World} (ho : ∀ x, x ≠ (ρ b).blk → w'.heap[x]? = w.heap[x]?) (hsz : w'.heap.size = w.heap.size)
    (hok : ObjOk (upd ρ n sp) w' n ao') (hwf : AO.wf (upd ρ n sp) (n + 1) ao') (he : SameEnv w w' := by exact ⟨rfl, rfl, rfl⟩) : Mem w0 out G (upd ρ n sp) (upd (upd h b none) n (some ao')) (n + 1) w' ∧ (∀ b, b < n → upd ρ n sp b = ρ b) := by
  have hρ : ∀ b, b < n → upd ρ n sp b = ρ b := fun b hb => upd_other _ _ (by omega)
  have get : ∀ {x y}, x ≠ n → upd (upd h b none) n (some ao') x = some y → h x = some y ∧ x ≠ b := fun {x y} hx hy => by
    rw [upd_other _ _ hx] at hy
    by_cases e : x = b
    · subst e; rw [upd_same] at hy; cases hy
    · rw [upd_other _ _ e] at hy; exact ⟨hy, e⟩
  have hblt := M.lt b ao hb
  refine ⟨⟨?_, ?_, ?_, ?_, ?_, ?_, ?_, by have := M.globs; omega, M.env.trans he⟩, hρ⟩
  · intro c o hc
    by_cases e : c = n
    · subst e; rw [upd_same] at hc; cases hc; exact ⟨hok, hwf⟩
    · obtain ⟨h1, h2⟩ := get e hc
      exact ⟨objOk_ext (M.lt c o h1) hρ (M.obj c o h1).2 (ho _ fun e' => h2 (M.inj c b o ao h1 hb e')) (M.obj c o h1).1, aoWf_ext hρ (by omega) (M.obj c o h1).2⟩
  · intro c o hc
    by_cases e : c = n
    · omega
    · have := M.lt c o (get e hc).1; omega
  · intro c o hc
    rw [hsz]
    by_cases e : c = n
    · subst e; rw [upd_same, hs]; exact M.blk b ao hb
    · rw [hρ c (M.lt c o (get e hc).1)]; exact M.blk c o (get e hc).1
  · intro c c' o o' hc hc' e
    by_cases e1 : c = n
    · by_cases e2 : c' = n
      · omega
      · obtain ⟨g1, g2⟩ := get e2 hc'
        subst e1
        rw [upd_same, hρ c' (M.lt c' o' g1), hs] at e
        exact absurd (M.inj b c' ao o' hb g1 e).symm g2
    · obtain ⟨g1, g2⟩ := get e1 hc
      by_cases e2 : c' = n
      · subst e2
        rw [upd_same, hρ c (M.lt c o g1), hs] at e
        exact absurd (M.inj c b o ao g1 hb e) g2
      · obtain ⟨g3, g4⟩ := get e2 hc'
        rw [hρ c (M.lt c o g1), hρ c' (M.lt c' o' g3)] at e
        exact M.inj c c' o o' g1 g3 e
  · intro c hc
    obtain ⟨h1, h2⟩ := M.outs c hc
    refine ⟨by omega, ?_⟩
    rw [ho c fun e => M.apart b ao hb (e ▸ hc)]
    exact h2
  · intro c o hc
    by_cases e : c = n
    · subst e; rw [upd_same, hs]; exact M.apart b ao hb
    · rw [hρ c (M.lt c o (get e hc).1)]; exact M.apart c o (get e hc).1
  · intro g hg
    have := M.globs
    rw [hρ g (by omega)]
    exact M.glob g hg
def byteLits (s : ByteArray) : List AV := s.data.toList.map fun b => .lit (.int .u8 b.toNat)
/-- what is appended: how many elements, their cells -/
def xSrc (P : Program) (h : Hv) (xt : Option TypeId) (size : Nat) (x : AV) : Option (Nat × List AV) :=
  match xt with
  | none => none
  | some xt => match x with
    | .slc b o o' _ len _ => match sliceElem P xt with
      | none => none
      | some _ => bif len.beq 0 then some (0, []) else bif o.beq o' then (match h b with
        | some (.cells l _ _) => match takeN (len * size) (l.drop o) with
          | some vs => bif vs.all AV.single then some (len, vs) else none
          | none => none
        | _ => none) else none
    | .lit (.slice none 0 _) => match sliceElem P xt with
      | some _ => some (0, [])
      | none => none
    | .lit (.string s) => match P.underlying xt with
      | some .string => bif size.beq 1 then some (s.size, byteLits s) else none
      | _ => none
    | _ => none
theorem xSrc_ok (M : Mem w0 out G ρ (hv H) n w) {xt : Option TypeId} {size : Nat} {x : AV} {k : Nat} {vs : List AV} (h : xSrc P (hv H) xt size x = some (k, vs)) :
    ∃ t, xt = some t ∧ Src P size t (x.conc ρ) k (vs.map (AV.conc ρ)) w ∧ AV.wfs ρ n vs ∧ vs.all AV.single = true := by
  unfold xSrc at h
  split at h
  · cases h
  · rename_i t
    refine ⟨t, rfl, ?_⟩
    split at h
    · rename_i b o o' j len c
      split at h
      · cases h
      · rename_i e he
        have hu := sliceElem_eq he
        by_cases hl : len.beq 0 = true
        · rw [hl] at h
          have hl := Nat.eq_of_beq_eq_true hl
          subst hl
          cases h
          exact ⟨Src.ofSlice w hu _ 0 _ [] (by simp) (fun j u hj => by simp at hj) (fun u hu => by cases hu), by simp only [AV.wfs], rfl⟩
        · rw [Bool.eq_false_iff.2 hl] at h
          by_cases ho : o.beq o' = true
          · rw [ho] at h
            have ho := Nat.eq_of_beq_eq_true ho
            subst ho
            simp only [cond_false, cond_true] at h
            split at h
            · rename_i l e2 x2 hb
              split at h
              · rename_i vs' hv
                cases hs : vs'.all AV.single with
                | false => rw [hs] at h; cases h
                | true =>
                  rw [hs] at h
                  cases h
                  obtain ⟨h1, rfl⟩ := takeN_eq hv
                  have hat : CellsAt ρ w b o ((l.drop o).take (k * size)) := M.cellsAt hb o _ fun i v hi => by
                    rw [List.getElem?_take] at hi
                    split at hi
                    · rwa [List.getElem?_drop] at hi
                    · cases hi
                  refine ⟨?_, (wfs_iff ρ n _).2 fun v hv => (wfs_iff ρ n l).1 (M.obj b _ hb).2 v (List.mem_of_mem_drop (List.mem_of_mem_take hv)), hs⟩
                  simp only [AV.conc, ite_self]
                  refine Src.ofSlice w hu _ k _ _ (by simp at h1 ⊢; omega) (fun j u hj => ?_) (all_one hs)
                  rw [List.getElem?_map] at hj
                  obtain ⟨v, hv, rfl⟩ := Option.map_eq_some_iff.1 hj
                  rw [add_off, Nat.add_assoc]
                  exact hat j v hv
              · cases h
            · cases h
          · rw [Bool.eq_false_iff.2 ho] at h; cases h
    · rename_i c
      split at h
      · rename_i e he
        cases h
        exact ⟨Src.ofNil w (sliceElem_eq he) c, by simp only [AV.wfs], rfl⟩
      · cases h
    · rename_i s
      split at h
      · rename_i hu
        by_cases hs : size.beq 1 = true
        · rw [hs] at h
          have hs := Nat.eq_of_beq_eq_true hs
          subst hs
          cases h
          have e : (byteLits s).map (AV.conc ρ) = byteCells s := by simp [byteLits, byteCells, AV.conc, Function.comp_def]
          refine ⟨by rw [e]; exact Src.ofString w hu s, (wfs_iff ρ n _).2 fun v hv => ?_, List.all_eq_true.2 fun v hv => ?_⟩
          · obtain ⟨b, _, rfl⟩ := List.mem_map.1 hv; simp only [AV.wf]
          · obtain ⟨b, _, rfl⟩ := List.mem_map.1 hv; rfl
        · rw [Bool.eq_false_iff.2 hs] at h; cases h
      · cases h
    · cases h
/-- a new, longer row -/
def xGrow (H : Hp) (n : Nat) (e : TypeId) (size bytes : Nat) (olds : Option (List AV)) (len k : Nat) (vs : List AV) : Option (AV × Hp × Nat) :=
  match olds with
  | none => none
  | some l => bif Nat.blt (n + 1) 1048576 && Nat.ble ((len + k) * bytes) 16777216 && Nat.ble (len + k) 16777216 && (l ++ vs).length.beq ((len + k) * size) then some (.slc n 0 0 0 (len + k) none, Tr.set 20 H n (some (.cells (l ++ vs) size (e, false))), n + 1) else none
theorem grow_eff (M : Mem w0 out G ρ (hv H) n w) {t : TypeId} {size bytes len k : Nat} {l vs : List AV} {r : AV × Hp × Nat} (h : xGrow H n t size bytes (some l) len k vs = some r) (hl : AV.wfs ρ n l) (hvs : AV.wfs ρ n vs)
    {res : Result Next} {cap : Nat} (hcap : len + k ≤ cap) {w' : World} {rest : Array Value} (hrest : rest.size = (cap - (len + k)) * size) (hw' : w'.heap = w.heap.push (.cells (((l ++ vs).map (AV.conc ρ)).toArray ++ rest) t))
    (hres : res = .ok (.value (.slice (some ⟨w.heap.size, 0, none⟩) (len + k) cap)) w') (he : SameEnv w w' := by exact ⟨rfl, rfl, rfl⟩) : Eff w0 out G ρ n r res := by
  unfold xGrow at h
  dsimp only at h
  cases hb : (Nat.blt (n + 1) 1048576 && Nat.ble ((len + k) * bytes) 16777216 && Nat.ble (len + k) 16777216 && (l ++ vs).length.beq ((len + k) * size)) with
  | false => rw [hb] at h; cases h
  | true =>
    rw [hb] at h
    cases h
    simp only [Bool.and_eq_true] at hb
    obtain ⟨⟨⟨b1, b2⟩, b3⟩, b4⟩ := hb
    have b1 : n + 1 < 1048576 := by simpa [Nat.blt_eq] using b1
    have b4 := Nat.eq_of_beq_eq_true b4
    have hρ : ∀ b, b < n → upd ρ n ⟨w.heap.size, 0, cap⟩ b = ρ b := fun b hb => upd_other _ _ (by omega)
    have hlv : AV.wfs ρ n (l ++ vs) := (wfs_iff ρ n _).2 fun v hv => by
      rcases List.mem_append.1 hv with hv | hv
      · exact (wfs_iff ρ n _).1 hl v hv
      · exact (wfs_iff ρ n _).1 hvs v hv
    have hmul : (len + k) * size ≤ cap * size := Nat.mul_le_mul_right _ hcap
    have hsub : (cap - (len + k)) * size = cap * size - (len + k) * size := Nat.sub_mul _ _ _
    have hok : ObjOk (upd ρ n ⟨w.heap.size, 0, cap⟩) w' n (.cells (l ++ vs) size (t, false)) := by
      refine ⟨((l ++ vs).map (AV.conc ρ)).toArray ++ rest, t, by rw [upd_same, hw', Array.getElem?_push]; simp, fun i v hv => ?_, ?_, ?_, rfl, by rw [upd_same], fun e => by cases e⟩
      · rw [upd_same, Nat.zero_add, conc_ext hρ v ((wfs_iff ρ n _).1 hlv v (List.mem_of_getElem? hv))]
        have hi := (List.getElem?_eq_some_iff.1 hv).1
        rw [Array.getElem?_append_left (by simpa using hi), List.getElem?_toArray, List.getElem?_map, hv]
        rfl
      · rw [upd_same, b4]; exact hmul
      · rw [upd_same]
        show 0 + cap * size ≤ _
        rw [Array.size_append, hrest, List.size_toArray, List.length_map, b4]
        omega
    obtain ⟨h1, h2⟩ := M.new (sp := ⟨w.heap.size, 0, cap⟩) rfl hw' hok (wfs_ext hρ (by omega) _ hlv) he
    refine ⟨_, w', .inl (hres.trans ?_), ?_, h2, ?_, by show n ≤ n + 1; omega⟩
    · simp [AV.conc, capOf, upd_same]
    · show Mem w0 out G _ (hv (Tr.set 20 H n _)) _ _
      rw [hv_set H n _ b1]
      exact h1
    · simp only [AV.wf]
      exact ⟨by omega, fun _ => by rw [upd_same]; show 0 + (len + k) ≤ cap; omega, fun q e => (by cases e)⟩
/-- into the room that is known to be there -/
def xInto (H : Hp) (n b o j len k at_ : Nat) (c : Option Nat) (l : List AV) (e : Nat) (x : TypeId × Bool) (vs : List AV) : Option (AV × Hp × Nat) :=
  match splice l at_ vs with
  | some l' => bif Nat.blt (b + 1) 1048576 then some (.slc b o o j (len + k) c, Tr.set 20 H b (some (.cells l' e x)), n) else none
  | none => none
/-- behind the end of what is known: the row goes by a new name -/
def xTail (H : Hp) (n b o len k : Nat) (l : List AV) (e : Nat) (x : TypeId × Bool) (vs : List AV) : Option (AV × Hp × Nat) :=
  bif Nat.blt (n + 1) 1048576 && Nat.blt (b + 1) 1048576 then some (.slc n 0 0 0 (len + k) none, Tr.set 20 (Tr.set 20 H b none) n (some (.cells (l.drop o ++ vs) e (x.1, false))), n + 1) else none
def xAppSlc (H : Hp) (n : Nat) (t : TypeId) (size bytes b o o' j len : Nat) (c : Option Nat) (l : List AV) (e : Nat) (x : TypeId × Bool) (k : Nat) (vs : List AV) : Option (AV × Hp × Nat) :=
  match c with
  | some q => bif Nat.ble (len + k) q then (bif o.beq o' then xInto H n b o j len k (o + len * size) (some q) l e x vs else none)
      else (bif o.beq o' then xGrow H n t size bytes (takeN (len * size) (l.drop o)) len k vs else (bif len.beq 0 then xGrow H n t size bytes (some []) len k vs else none))
  | none => bif o.beq o' && e.beq size then (bif Nat.ble ((j + len + k) * size) l.length then xInto H n b o j len k (o + len * size) none l e x vs
      else (bif o.beq 0 && j.beq 0 && x.1.beq t && (o + len * size).beq l.length && Nat.ble ((len + k) * bytes) 16777216 && Nat.ble (len + k) 16777216 && vs.length.beq (k * size) then xTail H n b o len k l e x vs else none)) else none
def xAppTo (H : Hp) (n : Nat) (t : TypeId) (size bytes : Nat) (s : AV) (k : Nat) (vs : List AV) : Option (AV × Hp × Nat) :=
  match s with
  | .lit (.slice none 0 0) => bif k.beq 0 then some (s, H, n) else xGrow H n t size bytes (some []) 0 k vs
  | .slc b o o' j len c => bif k.beq 0 then some (s, H, n) else (match hv H b with
    | some (.cells l e x) => xAppSlc H n t size bytes b o o' j len c l e x k vs
    | _ => none)
  | _ => none
/-- as many zeros -/
def xAppZeros (H : Hp) (n : Nat) (t : TypeId) (size bytes : Nat) (zs : List AV) (s x : AV) : Option (AV × Hp × Nat) :=
  match s, x with
  | .lit (.slice none 0 0), .lit (.int _ (.ofNat k)) => bif k.beq 0 then some (s, H, n) else xGrow H n t size bytes (some []) 0 k (repL k zs)
  | _, _ => none
def isInt (P : Program) (t : TypeId) : Bool := match P.underlying t with
  | some (.int _) => true
  | _ => false
def xAppend (P : Program) (H : Hp) (n : Nat) (ts : Array TypeId) (args : List AV) : Option (AV × Hp × Nat) :=
  match ts.toList, args with
  | [st, xt], [s, x] => match sliceElem P st with
    | none => none
    | some e => match elemZero P e with
      | none => none
      | some (i, zs) => bif isInt P xt then xAppZeros H n e i.size i.bytes zs s x else match xSrc P (hv H) (some xt) i.size x with
        | some (k, vs) => xAppTo H n e i.size i.bytes s k vs
        | none => none
  | _, _ => none
theorem into_eff (M : Mem w0 out G ρ (hv H) n w) {b o j len k at_ : Nat} {c : Option Nat} {l vs : List AV} {e : Nat} {x : TypeId × Bool} {r : AV × Hp × Nat} (h : xInto H n b o j len k at_ c l e x vs = some r) (hb : hv H b = some (.cells l e x)) (hvs : AV.wfs ρ n vs) (h1 : vs.all AV.single = true)
    (hwf : AV.wf ρ n (.slc b o o j (len + k) c)) {res : Result Next}
    (hres : ∀ w', (storeCells ⟨(ρ b).blk, (ρ b).base + at_, none⟩ (vs.map (AV.conc ρ))).run P w = .ok () w' → res = .ok (.value ((AV.slc b o o j (len + k) c).conc ρ)) w') : Eff w0 out G ρ n r res := by
  unfold xInto at h
  split at h
  · rename_i l' hs
    by_cases hb1 : Nat.blt (b + 1) 1048576 = true
    · rw [hb1] at h
      cases h
      obtain ⟨w', hrun, hM⟩ := M.splice (P := P) hb hs hvs h1 (by simpa [Nat.blt_eq] using hb1)
      exact ⟨ρ, w', .inl (hres w' hrun), hM, fun _ _ => rfl, hwf, Nat.le_refl _⟩
    · rw [Bool.eq_false_iff.2 hb1] at h; cases h
  · cases h
theorem append_room_run {t tx ty e : TypeId} {i : TypeInfo} (ht : P.underlying t = some (.slice e)) (hi : P.info? e = some i) (b off sLen sCap : Nat) (x : Value) (k : Nat) (news : List Value) (hs : Src P i.size tx x k news w) (hroom : sLen + k ≤ sCap) {w' : World}
    (hst : (storeCells ⟨b, off + sLen * i.size, none⟩ news).run P w = .ok () w') :
    (Builtin.append_ #[t, tx] ty #[.slice (some ⟨b, off, none⟩) sLen sCap, x]).run P w = .ok (.slice (some ⟨b, off, none⟩) (sLen + k) sCap) w' := by
  rcases hs.kind with ⟨e', hk⟩ | hk <;> simp [Builtin.append_, run_underlying ht, run_underlying hk, sizeOf, typeInfo, hi, hs.len, hroom, hs.cells, add_off, hst]
theorem append_grow_run (M : Mem w0 out G ρ (hv H) n w) {t tx ty e : TypeId} {i : TypeInfo} {z : Value} (ht : P.underlying t = some (.slice e)) (hi : P.info? e = some i) (hz : i.zero = some z) (hzs : z.cells.size = i.size) {base : Option Addr} {len cap k : Nat} {l vs : List AV} {x : Value} (hl : AV.wfs ρ n l) (hvs : AV.wfs ρ n vs)
    (hold : (Builtin.firstCells i.size len (.slice base len cap)).run P w.drew = .ok (l.map (AV.conc ρ)).toArray w.drew) (hs : Src P i.size tx x k (vs.map (AV.conc ρ)) w) (hg : cap < len + k) {r : AV × Hp × Nat} (h : xGrow H n e i.size i.bytes (some l) len k vs = some r) {res : Result Next}
    (hres : res = ((Builtin.append_ #[t, tx] ty #[.slice base len cap, x]).run P w).andThen fun v w' => .ok (.value v) w') : Eff w0 out G ρ n r res := by
  have hb : (len + k) * i.bytes ≤ 16777216 ∧ len + k ≤ 16777216 := by
    unfold xGrow at h
    dsimp only at h
    cases hb : (Nat.blt (n + 1) 1048576 && Nat.ble ((len + k) * i.bytes) 16777216 && Nat.ble (len + k) 16777216 && (l ++ vs).length.beq ((len + k) * i.size)) with
    | false => rw [hb] at h; cases h
    | true => simp only [Bool.and_eq_true, Nat.ble_eq] at hb; exact ⟨hb.1.1.2, hb.1.2⟩
  have hrun := run_append_grow_src (P := P) w t tx ty e i z ht hi hz base len cap (l.map (AV.conc ρ)) hold x k (vs.map (AV.conc ρ)) hs hg (by omega) (growslice_fits hg (by omega))
  refine grow_eff M h hl hvs (grownCap_ge w (len + k) cap e) (rest := Builtin.zeroCells z.cells (grownCap w (len + k) cap e - (len + k))) (by rw [size_zeroCells, hzs]) (w' := w.drew.alloc (.cells ((l.map (AV.conc ρ) ++ vs.map (AV.conc ρ)).toArray ++ Builtin.zeroCells z.cells (grownCap w (len + k) cap e - (len + k))) e)) (by rw [List.map_append]; rfl) ?_
  rw [hres, hrun]
  rfl
theorem tail_eff (M : Mem w0 out G ρ (hv H) n w) {t tx ty e : TypeId} {i : TypeInfo} {z : Value} (ht : P.underlying t = some (.slice e)) (hi : P.info? e = some i) (hz : i.zero = some z) (hzs : z.cells.size = i.size) (hpos : 0 < i.size) {b o j len k : Nat} {l vs : List AV} {x : Value} (hvs : AV.wfs ρ n vs) (h1 : vs.all AV.single = true)
    {x' : TypeId × Bool} (hb : hv H b = some (.cells l i.size x')) (hxe : x'.1 = e) (ho : o = j * i.size) (ho0 : o = 0) (hend : o + len * i.size = l.length) (hlen : vs.length = k * i.size) (hs : Src P i.size tx x k (vs.map (AV.conc ρ)) w) (hx : AV.wf ρ n (.slc b o o j len none)) (hby : (len + k) * i.bytes ≤ 16777216) (hk : len + k ≤ 16777216)
    {r : AV × Hp × Nat} (h : xTail H n b o len k l i.size x' vs = some r) {res : Result Next}
    (hres : res = ((Builtin.append_ #[t, tx] ty #[(AV.slc b o o j len none).conc ρ, x]).run P w).andThen fun v w' => .ok (.value v) w') : Eff w0 out G ρ n r res := by
  have hrow := M.obj b _ hb
  obtain ⟨⟨c, t0, hc, hcell, hle, hsz, ht0, hbase, _⟩, hwl⟩ := hrow
  have hjl : j + len ≤ (ρ b).room := hx.2.1 rfl
  have hdrop : AV.wfs ρ n (l.drop o) := (wfs_iff ρ n _).2 fun v hv => (wfs_iff ρ n l).1 hwl v (List.mem_of_mem_drop hv)
  have hdl : (l.drop o).length = len * i.size := by simp; omega
  have hn : n + 1 < 1048576 ∧ b + 1 < 1048576 := by
    unfold xTail at h
    cases hb : (Nat.blt (n + 1) 1048576 && Nat.blt (b + 1) 1048576) with
    | false => rw [hb] at h; cases h
    | true => simpa [Nat.blt_eq] using hb
  have hr : r = (.slc n 0 0 0 (len + k) none, Tr.set 20 (Tr.set 20 H b none) n (some (.cells (l.drop o ++ vs) i.size (x'.1, false))), n + 1) := by
    unfold xTail at h
    rw [show (Nat.blt (n + 1) 1048576 && Nat.blt (b + 1) 1048576) = true from by simp [Nat.blt_eq, hn]] at h
    cases h; rfl
  by_cases hroom : len + k ≤ (ρ b).room - j
  · -- there is room behind
    have e1 : (j + (len + k)) * i.size ≤ (ρ b).room * i.size := Nat.mul_le_mul_right _ (by omega)
    have e2 : (j + (len + k)) * i.size = j * i.size + len * i.size + k * i.size := by rw [Nat.add_mul, Nat.add_mul]; omega
    have e3 : ((ρ b).room - j) * i.size = (ρ b).room * i.size - j * i.size := Nat.sub_mul _ _ _
    have hfit : (ρ b).base + (o + len * i.size) + 0 + (vs.map (AV.conc ρ)).length ≤ c.size := by simp; omega
    have hrun := run_storeCells_at (P := P) (ρ b).blk ((ρ b).base + (o + len * i.size)) t0 (vs.map (AV.conc ρ)) 0 c w hc hfit (all_one h1)
    rw [Nat.add_zero] at hrun hfit
    have happ := append_room_run (P := P) (ty := ty) ht hi (ρ b).blk ((ρ b).base + o) len ((ρ b).room - j) x k (vs.map (AV.conc ρ)) hs hroom (by rw [Nat.add_assoc]; exact hrun)
    subst hr
    generalize hrow' : (c.toList.take ((ρ b).base + (o + len * i.size)) ++ vs.map (AV.conc ρ) ++ c.toList.drop ((ρ b).base + (o + len * i.size) + (vs.map (AV.conc ρ)).length)).toArray = row at hrun happ
    have hcs : row.size = c.size := by rw [← hrow']; exact row_size hfit
    have hρ : ∀ q, q < n → upd ρ n ⟨(ρ b).blk, (ρ b).base + o, (ρ b).room - j⟩ q = ρ q := fun q hq => upd_other _ _ (by omega)
    have hlv : AV.wfs ρ n (l.drop o ++ vs) := (wfs_iff ρ n _).2 fun v hv => by
      rcases List.mem_append.1 hv with hv | hv
      · exact (wfs_iff ρ n _).1 hdrop v hv
      · exact (wfs_iff ρ n _).1 hvs v hv
    have hok : ObjOk (upd ρ n ⟨(ρ b).blk, (ρ b).base + o, (ρ b).room - j⟩) (w.setRow (ρ b).blk row) n (.cells (l.drop o ++ vs) i.size (x'.1, false)) := by
      refine ⟨row, t0, by rw [upd_same]; exact setRow_heap w _ c _ t0 (0, 0) hc, fun q v hv => ?_, ?_, ?_, ht0, by rw [upd_same]; show (ρ b).base + o = 0; omega, fun e => by cases e⟩
      · rw [upd_same, conc_ext hρ v ((wfs_iff ρ n _).1 hlv v (List.mem_of_getElem? hv))]
        show row[(ρ b).base + o + q]? = _
        rw [← hrow', List.getElem?_toArray]
        by_cases hq : q < len * i.size
        · rw [List.getElem?_append_left (by rw [hdl]; exact hq), List.getElem?_drop] at hv
          rw [List.append_assoc, List.getElem?_append_left (by simp; omega), List.getElem?_take, if_pos (by omega), Array.getElem?_toList, Nat.add_assoc]
          exact hcell _ v hv
        · rw [List.getElem?_append_right (by rw [hdl]; omega), hdl] at hv
          have hql := (List.getElem?_eq_some_iff.1 hv).1
          rw [List.append_assoc, List.getElem?_append_right (by simp; omega)]
          have e : (ρ b).base + o + q - (c.toList.take ((ρ b).base + (o + len * i.size))).length = q - len * i.size := by simp; omega
          rw [e, List.getElem?_append_left (by simpa using hql), List.getElem?_map, hv]
          rfl
      · rw [upd_same]
        show _ ≤ ((ρ b).room - j) * i.size
        rw [List.length_append, hdl, hlen, e3]; omega
      · rw [upd_same]
        show (ρ b).base + o + ((ρ b).room - j) * i.size ≤ row.size
        rw [hcs, e3]; omega
    obtain ⟨g1, g2⟩ := M.move hb (sp := ⟨(ρ b).blk, (ρ b).base + o, (ρ b).room - j⟩) rfl (fun q hq => setRow_other w _ q _ hq) (size_setRow _ _ _) hok (wfs_ext hρ (by omega) _ hlv)
    refine ⟨_, w.setRow (ρ b).blk row, .inl ?_, ?_, g2, ?_, by show n ≤ n + 1; omega⟩
    · rw [hres]
      simp only [AV.conc, capOf, ite_self, happ, Result.andThen_ok, upd_same, Nat.add_zero, Nat.sub_zero]
    · show Mem w0 out G _ (hv (Tr.set 20 (Tr.set 20 H b none) n _)) _ _
      rw [hv_set _ n _ hn.1, hv_set H b _ hn.2]
      exact g1
    · simp only [AV.wf]
      exact ⟨by omega, fun _ => by rw [upd_same]; show 0 + (len + k) ≤ (ρ b).room - j; omega, fun q e => (by cases e)⟩
  · -- there is none
    have M' := M.drop b
    rw [← hv_set H b none hn.2] at M'
    have hold : (Builtin.firstCells i.size len (.slice (some ⟨(ρ b).blk, (ρ b).base + o, none⟩) len ((ρ b).room - j))).run P w.drew = .ok ((l.drop o).map (AV.conc ρ)).toArray w.drew := by
      refine run_firstCells_some w.drew i.size len _ len _ _ (by rw [List.length_map, hdl]) (fun q u hq => ?_)
      rw [List.getElem?_map] at hq
      obtain ⟨v, hv, rfl⟩ := Option.map_eq_some_iff.1 hq
      rw [List.getElem?_drop] at hv
      rw [add_off, Nat.add_assoc]
      have := hcell _ v hv
      show World.cell? w _ = _
      simp [World.cell?, hc, this]
    refine append_grow_run (P := P) M' ht hi hz hzs hdrop hvs (tx := tx) (ty := ty) (base := some ⟨(ρ b).blk, (ρ b).base + o, none⟩) (len := len) (cap := (ρ b).room - j) (k := k) (x := x) hold hs (by omega) (r := r) ?_ ?_
    · unfold xGrow
      dsimp only
      rw [show (Nat.blt (n + 1) 1048576 && Nat.ble ((len + k) * i.bytes) 16777216 && Nat.ble (len + k) 16777216 && (l.drop o ++ vs).length.beq ((len + k) * i.size)) = true from by
        have : (l.drop o ++ vs).length = (len + k) * i.size := by rw [List.length_append, hdl, hlen, Nat.add_mul]
        rw [this]
        simp [Nat.blt_eq, hn, hby, hk]]
      rw [hr, hxe]
      rfl
    · rw [hres]
      simp only [AV.conc, capOf, ite_self]
theorem zeros_eff (M : Mem w0 out G ρ (hv H) n w) {t tx ty e : TypeId} {kn : IntKind} {i : TypeInfo} {z : Value} {zs : List AV} (ht : P.underlying t = some (.slice e)) (hi : P.info? e = some i) (hz : i.zero = some z) (hz3 : zs.length = i.size) (hz4 : 0 < i.size) (hz5 : z.cells = ⟨zs.map (AV.conc ρ)⟩) (hz6 : AV.wfs ρ n zs)
    (hxi : P.underlying tx = some (.int kn)) {s x : AV} {r : AV × Hp × Nat} (h : xAppZeros H n e i.size i.bytes zs s x = some r) {res : Result Next} (hres : res = ((Builtin.append_ #[t, tx] ty #[s.conc ρ, x.conc ρ]).run P w).andThen fun v w' => .ok (.value v) w') : Eff w0 out G ρ n r res := by
  unfold xAppZeros at h
  split at h
  · rename_i kq k
    by_cases hk : k.beq 0 = true
    · rw [hk] at h
      have hk := Nat.eq_of_beq_eq_true hk
      subst hk
      cases h
      refine ⟨ρ, w, .inl ?_, M, fun _ _ => rfl, by simp only [AV.wf], Nat.le_refl _⟩
      have w0 : IntKind.i64.wrap (0 : Int) = 0 := by decide
      rw [hres]
      simp [AV.conc, Builtin.append_, run_underlying ht, run_underlying hxi, sizeOf, typeInfo, hi, asInt, asIntOf, w0]
    · rw [Bool.eq_false_iff.2 hk] at h
      simp only [cond_false] at h
      have hk : 0 < k := by
        rcases Nat.eq_zero_or_pos k with e | e
        · exact absurd (by rw [e]; rfl) hk
        · exact e
      have hb : (0 + k) * i.bytes ≤ 16777216 ∧ 0 + k ≤ 16777216 := by
        have h' := h
        unfold xGrow at h'
        dsimp only at h'
        cases hb : (Nat.blt (n + 1) 1048576 && Nat.ble ((0 + k) * i.bytes) 16777216 && Nat.ble (0 + k) 16777216 && ([] ++ repL k zs).length.beq ((0 + k) * i.size)) with
        | false => rw [hb] at h'; cases h'
        | true => simp only [Bool.and_eq_true, Nat.ble_eq] at hb; exact ⟨hb.1.1.2, hb.1.2⟩
      have hkb : k * i.bytes ≤ 16777216 := by have := hb.1; rwa [Nat.zero_add] at this
      have hrun := Lib.run_append_grow_zeros (P := P) w t tx ty e i z kq kn ht hxi hi hz none 0 0 [] (run_firstCells_none w.drew i.size 0 0 0) k hk hz4 (by omega) (by omega) (by omega) (growslice_fits (by omega) (by omega))
      have hzc : Builtin.zeroCells z.cells k = ⟨(repL k zs).map (AV.conc ρ)⟩ := by
        have := rep_array (ρ := ρ) zs k
        rw [← hz5] at this
        have hsz : z.cells.size = zs.length := by rw [hz5]; simp
        unfold Builtin.zeroCells
        rw [hsz]
        rw [hsz] at this
        exact this
      have hzs : z.cells.size = i.size := by rw [hz5]; simp [hz3]
      refine grow_eff M h (by simp only [AV.wfs]) ((wfs_iff ρ n _).2 fun v hv => (wfs_iff ρ n _).1 hz6 v (repL_mem hv)) (grownCap_ge w (0 + k) 0 e) (rest := Builtin.zeroCells z.cells (grownCap w (0 + k) 0 e - (0 + k))) (by rw [size_zeroCells, hzs]) (w' := w.drew.alloc (.cells ((⟨(repL k zs).map (AV.conc ρ)⟩ : Array Value) ++ Builtin.zeroCells z.cells (grownCap w (0 + k) 0 e - (0 + k))) e)) rfl ?_
      rw [hres]
      simp only [AV.conc, Int.ofNat_eq_natCast]
      rw [hrun, hzc]
      simp
  · cases h
theorem append_nothing (t tx ty e : TypeId) {i : TypeInfo} (ht : P.underlying t = some (.slice e)) (hi : P.info? e = some i) {base : Option Addr} {len cap : Nat} (hle : len ≤ cap) {x : Value} {news : List Value} (hs : Src P i.size tx x 0 news w) :
    (Builtin.append_ #[t, tx] ty #[.slice base len cap, x]).run P w = .ok (.slice base len cap) w := by
  have h0 : news = [] := List.length_eq_zero_iff.1 (by rw [hs.newsLen, Nat.zero_mul])
  subst h0
  exact run_append_nothing w t tx ty e i ht hi base len cap hle x hs
theorem xAppend_ok (M : Mem w0 out G ρ (hv H) n w) {ts : Array TypeId} {ty : TypeId} {args : List AV} {r : AV × Hp × Nat} (h : xAppend P H n ts args = some r) (hw : ∀ v ∈ args, v.wf ρ n) {res : Result Next}
    (hres : res = ((Builtin.append_ ts ty ⟨args.map (AV.conc ρ)⟩).run P w).andThen fun v w' => .ok (.value v) w') : Eff w0 out G ρ n r res := by
  unfold xAppend at h
  split at h
  · rename_i st xt s x hts
    have hts : ts = #[st, xt] := by apply Array.ext'; simpa using hts
    subst hts
    split at h
    · cases h
    · rename_i e he
      have ht := sliceElem_eq he
      split at h
      · cases h
      · rename_i i zs hz
        obtain ⟨z, hi, hz1, _, hz3, hz4, hz5, hz6⟩ := elemZero_eq hz
        have hzs : z.cells.size = i.size := by rw [hz5 ρ]; simp [hz3]
        cases hint : isInt P xt with
        | true =>
          rw [hint] at h
          simp only [cond_true] at h
          unfold isInt at hint
          split at hint
          · rename_i kn hxi
            rw [show (⟨[s, x].map (AV.conc ρ)⟩ : Array Value) = #[s.conc ρ, x.conc ρ] from rfl] at hres
            exact zeros_eff M ht hi hz1 hz3 hz4 (hz5 ρ) (hz6 ρ n) hxi h hres
          · cases hint
        | false =>
        rw [hint] at h
        simp only [cond_false] at h
        split at h
        · rename_i k vs hsrc
          obtain ⟨xt', hxt, hS, hvs, h1⟩ := xSrc_ok M hsrc
          cases hxt
          have hlen : vs.length = k * i.size := by have := hS.newsLen; simpa using this
          have hws : s.wf ρ n := hw s (by simp)
          rw [show (⟨[s, x].map (AV.conc ρ)⟩ : Array Value) = #[s.conc ρ, x.conc ρ] from rfl] at hres
          unfold xAppTo at h
          split at h
          · by_cases hk : k.beq 0 = true
            · rw [hk] at h
              have hk := Nat.eq_of_beq_eq_true hk
              subst hk
              cases h
              exact ⟨ρ, w, .inl (by rw [hres]; simp only [AV.conc]; rw [append_nothing st xt ty e ht hi (Nat.le_refl 0) hS]; rfl), M, fun _ _ => rfl, by simp only [AV.wf], Nat.le_refl _⟩
            · rw [Bool.eq_false_iff.2 hk] at h
              have hk : 0 < k := by
                rcases Nat.eq_zero_or_pos k with e | e
                · exact absurd (by rw [e]; rfl) hk
                · exact e
              exact append_grow_run M ht hi hz1 hzs (l := []) (tx := xt) (ty := ty) (base := none) (len := 0) (cap := 0) (by simp only [AV.wfs]) hvs (run_firstCells_none w.drew i.size 0 0 0) hS (by omega) h (by rw [hres]; rfl)
          · rename_i b o o' j len c
            by_cases hk : k.beq 0 = true
            · rw [hk] at h
              have hk := Nat.eq_of_beq_eq_true hk
              subst hk
              cases h
              have hle : len ≤ capOf ρ b j c := by
                cases c with
                | none => have := hws.2.1 rfl; simp only [capOf]; omega
                | some q => exact hws.2.2 q rfl
              exact ⟨ρ, w, .inl (by rw [hres]; simp only [AV.conc]; rw [append_nothing st xt ty e ht hi hle hS]; rfl), M, fun _ _ => rfl, hws, Nat.le_refl _⟩
            · rw [Bool.eq_false_iff.2 hk] at h
              simp only [cond_false] at h
              split at h
              · rename_i l e2 x2 hb
                obtain ⟨hrow, hwl⟩ := M.obj b _ hb
                unfold xAppSlc at h
                split at h
                · rename_i q
                  by_cases hq : Nat.ble (len + k) q = true
                  · rw [hq] at h
                    by_cases ho : o.beq o' = true
                    · rw [ho] at h
                      have ho := Nat.eq_of_beq_eq_true ho
                      subst ho
                      have hq : len + k ≤ q := by simpa using hq
                      refine into_eff (P := P) M h hb hvs h1 (by simp only [AV.wf]; exact ⟨hws.1, fun e => (by cases e), fun q' e => (by cases e; exact hq)⟩) (fun w' hst => ?_)
                      rw [hres]
                      simp only [AV.conc, ite_self, capOf]
                      rw [append_room_run (ty := ty) ht hi _ _ len q _ k _ hS hq (by rw [Nat.add_assoc]; exact hst)]
                      rfl
                    · rw [Bool.eq_false_iff.2 ho] at h; cases h
                  · rw [Bool.eq_false_iff.2 hq] at h
                    have hq : ¬ len + k ≤ q := by simpa using hq
                    by_cases ho : o.beq o' = true
                    · rw [ho] at h
                      have ho := Nat.eq_of_beq_eq_true ho
                      subst ho
                      simp only [cond_false, cond_true] at h
                      cases htk : takeN (len * i.size) (l.drop o) with
                      | none => rw [htk] at h; cases h
                      | some l' =>
                        rw [htk] at h
                        obtain ⟨g1, rfl⟩ := takeN_eq htk
                        have hlen' : ((l.drop o).take (len * i.size)).length = len * i.size := by simp at g1 ⊢; omega
                        refine append_grow_run M ht hi hz1 hzs (l := (l.drop o).take (len * i.size)) (tx := xt) (ty := ty) (base := some ⟨(ρ b).blk, (ρ b).base + o, none⟩) (len := len) (cap := q) ((wfs_iff ρ n _).2 fun v hv => (wfs_iff ρ n l).1 hwl v (List.mem_of_mem_drop (List.mem_of_mem_take hv))) hvs ?_ hS (by omega) h (by rw [hres]; simp only [AV.conc, ite_self, capOf])
                        refine run_firstCells_some w.drew i.size len _ len _ _ (by rw [List.length_map, hlen']) (fun q' u hq' => ?_)
                        rw [List.getElem?_map] at hq'
                        obtain ⟨v, hv, rfl⟩ := Option.map_eq_some_iff.1 hq'
                        rw [add_off, Nat.add_assoc]
                        have hat : CellsAt ρ w b o ((l.drop o).take (len * i.size)) := M.cellsAt hb o _ fun i v hi => by
                          rw [List.getElem?_take] at hi
                          split at hi
                          · rwa [List.getElem?_drop] at hi
                          · cases hi
                        exact hat q' v hv
                    · rw [Bool.eq_false_iff.2 ho] at h
                      simp only [cond_false] at h
                      by_cases hl0 : len.beq 0 = true
                      · rw [hl0] at h
                        have hl0 := Nat.eq_of_beq_eq_true hl0
                        subst hl0
                        exact append_grow_run M ht hi hz1 hzs (l := []) (tx := xt) (ty := ty) (base := some ⟨(ρ b).blk, (ρ b).base + (if (ρ b).room = j then o else o'), none⟩) (len := 0) (cap := q) (by simp only [AV.wfs]) hvs (run_firstCells_some w.drew i.size 0 _ 0 _ [] (by simp) (fun q' u hq' => by simp at hq')) hS (by omega) h (by rw [hres]; simp only [AV.conc, capOf])
                      · rw [Bool.eq_false_iff.2 hl0] at h; cases h
                · cases hoe : (o.beq o' && e2.beq i.size) with
                  | false => rw [hoe] at h; cases h
                  | true =>
                    rw [hoe] at h
                    rw [Bool.and_eq_true] at hoe
                    have ho := Nat.eq_of_beq_eq_true hoe.1
                    have he2 := Nat.eq_of_beq_eq_true hoe.2
                    subst ho
                    subst he2
                    simp only [cond_true] at h
                    obtain ⟨c', t', hc', hcell, hle, hsz, _⟩ := hrow
                    by_cases hr : Nat.ble ((j + len + k) * i.size) l.length = true
                    · rw [hr] at h
                      have hr : (j + len + k) * i.size ≤ l.length := by simpa using hr
                      have hroom : j + len + k ≤ (ρ b).room := Nat.le_of_mul_le_mul_right (Nat.le_trans hr hle) hz4
                      refine into_eff (P := P) M h hb hvs h1 (by simp only [AV.wf]; exact ⟨hws.1, fun _ => by omega, fun q' e => (by cases e)⟩) (fun w' hst => ?_)
                      rw [hres]
                      simp only [AV.conc, ite_self, capOf]
                      rw [append_room_run (ty := ty) ht hi _ _ len ((ρ b).room - j) _ k _ hS (by omega) (by rw [Nat.add_assoc]; exact hst)]
                      rfl
                    · rw [Bool.eq_false_iff.2 hr] at h
                      simp only [cond_false] at h
                      cases hcs : (o.beq 0 && j.beq 0 && x2.1.beq e && (o + len * i.size).beq l.length && Nat.ble ((len + k) * i.bytes) 16777216 && Nat.ble (len + k) 16777216 && vs.length.beq (k * i.size)) with
                      | false => rw [hcs] at h; cases h
                      | true =>
                        rw [hcs] at h
                        simp only [Bool.and_eq_true, Nat.ble_eq] at hcs
                        obtain ⟨⟨⟨⟨⟨⟨c1, c1j⟩, c1x⟩, c2⟩, c3⟩, c4⟩, c5⟩ := hcs
                        have c1 := Nat.eq_of_beq_eq_true c1
                        have c1j := Nat.eq_of_beq_eq_true c1j
                        have c1x := Nat.eq_of_beq_eq_true c1x
                        exact tail_eff M ht hi hz1 hzs hz4 (tx := xt) (ty := ty) hvs h1 hb c1x (by rw [c1j, c1, Nat.zero_mul]) c1 (Nat.eq_of_beq_eq_true c2) (Nat.eq_of_beq_eq_true c5) hS hws c3 c4 h hres
              · cases h
          · cases h
        · cases h
  · cases h
end
end
end Cx
end Go.Proofs.YtboondbognbnnaaGreatDoor

set_option linter.unusedVariables false
set_option linter.unusedSimpArgs false
namespace Go.Proofs.YtboondbognbnnaaGreatDoor
namespace Cx
noncomputable section
section
variable {P : Program} {w0 : World} {out : Nat → Prop} {G : Nat} {ρ : Env} {H : Hp} {n : Nat} {w : World}
theorem run_gm {r : Nat} {es : Array MapEntry} {clock : Nat} (hb : w.heap[r]? = some (.map es clock)) : (getObj r).run P w = .ok (.map es clock) w := by simp [getObj, Sem.run, hb]
theorem run_sm {r : Nat} {es : Array MapEntry} {clock : Nat} (o : Obj) (hb : w.heap[r]? = some (.map es clock)) : (setObj r o).run P w = .ok () { w with heap := w.heap.setIfInBounds r o } := by simp [setObj, Sem.run, hb]
def toE (ρ : Env) (x : Value × AV × Nat) : MapEntry := { key := x.1, val := x.2.1.conc ρ, born := x.2.2 }
def findA (kind : TypeDesc) (k : Value) : List (Value × AV × Nat) → Nat → Option (Option (Nat × AV))
  | [], _ => some none
  | e :: es, i => match Instr.sameNow kind k e.1 with
    | some true => some (some (i, e.2.1))
    | some false => findA kind k es (i + 1)
    | none => none
theorem findA_eq {kind : TypeDesc} {k : Value} : ∀ {es : List (Value × AV × Nat)} {i : Nat} {r : Option (Nat × AV)}, findA kind k es i = some r →
    Instr.findNow kind k (es.map (toE ρ)) i = some (r.map fun x => (x.1, x.2.conc ρ)) ∧ (∀ x, r = some x → i ≤ x.1 ∧ ∃ e, es[x.1 - i]? = some e ∧ e.2.1 = x.2)
  | [], i, r, h => by simp only [findA, Option.some.injEq] at h; subst h; exact ⟨rfl, fun x e => by cases e⟩
  | e :: es, i, r, h => by
    simp only [findA] at h
    split at h
    · rename_i hs
      cases h
      refine ⟨?_, fun x e => by cases e; exact ⟨Nat.le_refl _, e, by simp, rfl⟩⟩
      simp only [List.map_cons, Instr.findNow, toE, hs, Option.map_some]
    · rename_i hs
      obtain ⟨h1, h2⟩ := findA_eq h
      refine ⟨?_, fun x e => ?_⟩
      · rw [← h1]; simp only [List.map_cons, Instr.findNow, toE, hs]
      · obtain ⟨g1, e', g2, g3⟩ := h2 x e
        refine ⟨by omega, e', ?_, g3⟩
        rw [show x.1 - i = (x.1 - (i + 1)) + 1 from by omega, List.getElem?_cons_succ]
        exact g2
    · cases h
theorem findKey_run {kt : TypeId} {kd : TypeDesc} (hu : P.underlying kt = some kd) {k : Value} {es : List (Value × AV × Nat)} {r : Option (Nat × AV)} (h : findA kd k es 0 = some r) (w : World) :
    (Instr.findKey kt k (es.map (toE ρ))).run P w = .ok (r.map fun x => (x.1, x.2.conc ρ)) w := by
  simp only [Instr.findKey, Sem.run_bind, run_underlying hu, Result.andThen_ok, (findA_eq (ρ := ρ) h).1, rp]
def okTup (ok : Bool) (v : AV) (b : Bool) : AV := bif ok then .tup [v, .lit (.bool b)] else v
def xFind (P : Program) (t : TypeId) (es : List (Value × AV × Nat)) (k : Value) (ok : Bool) : Option AV :=
  match P.underlying t with
  | some (.map kt et) => match P.underlying kt, quick P (Instr.checkKey es.isEmpty 10000 kt k) with
    | some kd, some _ => match findA kd k es 0 with
      | some (some x) => some (okTup ok x.2 true)
      | some none => match aZero P et with
        | some z => some (okTup ok z false)
        | none => none
      | none => none
    | _, _ => none
  | _ => none
def xLookup (P : Program) (h : Hv) (t : TypeId) (x i : AV) (ok : Bool) : Option AV :=
  match i with
  | .lit k => match x with
    | .mp b => match h b with
      | some (.map es _) => xFind P t es k ok
      | _ => none
    | .lit (.map none) => xFind P t [] k ok
    | _ => none
  | _ => none
theorem okTup_ok {ok b : Bool} {v : AV} : (okTup ok v b).conc ρ = (if ok then .tuple #[v.conc ρ, .bool b] else v.conc ρ) ∧ (v.wf ρ n → (okTup ok v b).wf ρ n) := by
  cases ok
  · exact ⟨rfl, id⟩
  · refine ⟨rfl, fun h => ?_⟩
    show AV.wf ρ n (.tup [v, .lit (.bool b)])
    simp only [AV.wf, AV.wfs]
    exact ⟨h, trivial, trivial⟩
theorem xFind_ok {t : TypeId} {es : List (Value × AV × Nat)} {k : Value} {ok : Bool} {v : AV} (h : xFind P t es k ok = some v) (hes : ∀ x ∈ es, x.2.1.wf ρ n) {x : Value} {w : World} (hx : x = .map none ∧ es = [] ∨ ∃ r clock, x = .map (some r) ∧ w.heap[r]? = some (.map ⟨es.map (toE ρ)⟩ clock)) :
    (Instr.lookup t x k ok).run P w = .ok (v.conc ρ) w ∧ v.wf ρ n := by
  unfold xFind at h
  split at h
  · rename_i kt et hu
    split at h
    · rename_i kd u hk hq
      have hck := quick_run hq w
      have hemp : (⟨es.map (toE ρ)⟩ : Array MapEntry).isEmpty = es.isEmpty := by cases es <;> rfl
      have key : ∀ {r : Option (Nat × AV)}, findA kd k es 0 = some r → (Instr.lookup t x k ok).run P w =
          ((match r with | some y => (pure (y.2.conc ρ, true) : Sem (Value × Bool)) | none => do pure (← zeroValue et, false)).run P w).andThen fun y w' => .ok (if ok then .tuple #[y.1, .bool y.2] else y.1) w' := by
        intro r hr
        have hf := findKey_run (ρ := ρ) hk hr w
        rcases hx with ⟨rfl, rfl⟩ | ⟨b, clock, rfl, hb⟩
        · simp only [List.isEmpty_nil] at hck
          simp only [List.map_nil] at hf
          cases r <;> simp only [Instr.lookup, Sem.run_bind, run_underlying hu, Result.andThen_ok, rp, Array.isEmpty_empty, hck, hf, Option.map_none, Option.map_some] <;> first | rfl | (cases (zeroValue et).run P w <;> rfl)
        · rw [← hemp] at hck
          cases r <;> simp only [Instr.lookup, Sem.run_bind, run_underlying hu, Result.andThen_ok, run_gm hb, rp, hck, hf, Option.map_none, Option.map_some] <;> first | rfl | (cases (zeroValue et).run P w <;> rfl)
      split at h
      · rename_i y hy
        cases h
        obtain ⟨_, g2⟩ := findA_eq (ρ := ρ) hy
        obtain ⟨_, e, he, hev⟩ := g2 y rfl
        refine ⟨?_, okTup_ok.2 (hev ▸ hes e (List.mem_of_getElem? he))⟩
        rw [key hy, (okTup_ok (n := 0)).1]
        rfl
      · rename_i hy
        split at h
        · rename_i z hz
          cases h
          refine ⟨?_, okTup_ok.2 ((zero_plain hz).2 ρ n)⟩
          rw [key hy, (okTup_ok (n := 0)).1]
          simp only [Sem.run_bind, run_zero (ρ := ρ) hz w, Result.andThen_ok, rp]
        · cases h
      · cases h
    · cases h
  · cases h
theorem xLookup_ok (M : Mem w0 out G ρ (hv H) n w) {t : TypeId} {x i v : AV} {ok : Bool} (h : xLookup P (hv H) t x i ok = some v) : (Instr.lookup t (x.conc ρ) (i.conc ρ) ok).run P w = .ok (v.conc ρ) w ∧ v.wf ρ n := by
  unfold xLookup at h
  split at h
  · rename_i k
    split at h
    · rename_i b
      split at h
      · rename_i es clock hb
        obtain ⟨h1, h2⟩ := M.obj b _ hb
        exact xFind_ok h h2 (.inr ⟨_, clock, rfl, h1⟩)
      · cases h
    · exact xFind_ok h (fun x hx => by cases hx) (.inl ⟨rfl, rfl⟩)
    · cases h
  · cases h
def setNth {α : Type} : List α → Nat → α → List α
  | [], _, _ => []
  | _ :: l, 0, y => y :: l
  | x :: l, i + 1, y => x :: setNth l i y
theorem setNth_eq {α : Type} (y : α) : ∀ (l : List α) (i : Nat), setNth l i y = l.set i y
  | [], _ => rfl
  | _ :: l, 0 => rfl
  | x :: l, i + 1 => by simp [setNth, setNth_eq y l i]
def xMapSet (P : Program) (H : Hp) (n : Nat) (t : TypeId) (m k v : AV) : Option (AV × Hp × Nat) :=
  match m, k with
  | .mp b, .lit k => match hv H b, P.underlying t with
    | some (.map es clock), some (.map kt _) => match P.underlying kt, quick P (Instr.checkKey false 10000 kt k) with
      | some kd, some _ => bif Nat.blt (b + 1) 1048576 then (match findA kd k es 0 with
        | some (some x) => match es[x.1]? with
          | some e => match quick P (Instr.keyThatStays e.1 k) with
            | some k' => some (.lit undef, Tr.set 20 H b (some (.map (setNth es x.1 (k', v, e.2.2)) clock)), n)
            | none => none
          | none => none
        | some none => some (.lit undef, Tr.set 20 H b (some (.map (es ++ [(k, v, clock)]) (clock + 1))), n)
        | none => none) else none
      | _, _ => none
    | _, _ => none
  | _, _ => none
theorem Mem.setMap (M : Mem w0 out G ρ (hv H) n w) {b clock clock' : Nat} {es es' : List (Value × AV × Nat)} (hb : hv H b = some (.map es clock)) (hes : ∀ x ∈ es', x.2.1.wf ρ n) (hb1 : b + 1 < 1048576) :
    Mem w0 out G ρ (hv (Tr.set 20 H b (some (.map es' clock')))) n { w with heap := w.heap.setIfInBounds (ρ b).blk (.map ⟨es'.map (toE ρ)⟩ clock') } := by
  rw [hv_set H b _ hb1]
  have hlt := M.blk b _ hb
  refine M.put hb ?_ hes (fun x hx => ?_) (by simp)
  · show (w.heap.setIfInBounds _ _)[_]? = _
    rw [Array.getElem?_setIfInBounds_self_of_lt hlt]
    rfl
  · show (w.heap.setIfInBounds _ _)[_]? = _
    rw [Array.getElem?_setIfInBounds_ne (fun e => hx e.symm)]
theorem xMapSet_ok (M : Mem w0 out G ρ (hv H) n w) {t : TypeId} {m k v : AV} {r : AV × Hp × Nat} (h : xMapSet P H n t m k v = some r) (hw : v.wf ρ n) {res : Result Next}
    (hres : res = ((Instr.mapUpdate t (m.conc ρ) (k.conc ρ) (v.conc ρ)).run P w).andThen fun _ w' => .ok .skip w') : Eff w0 out G ρ n r res := by
  unfold xMapSet at h
  split at h
  · rename_i b k
    split at h
    · rename_i es clock kt et hb hu
      obtain ⟨h1, h2⟩ := M.obj b _ hb
      have h1 : w.heap[(ρ b).blk]? = some (.map ⟨es.map (toE ρ)⟩ clock) := h1
      split at h
      · rename_i kd u hk hq
        have hck := quick_run hq w
        by_cases hb1 : Nat.blt (b + 1) 1048576 = true
        · rw [hb1] at h
          have hb1 : b + 1 < 1048576 := by simpa [Nat.blt_eq] using hb1
          simp only [cond_true] at h
          split at h
          · rename_i x hf
            split at h
            · rename_i e he
              split at h
              · rename_i k' hk'
                cases h
                have hrun := findKey_run (ρ := ρ) hk hf w
                refine ⟨ρ, _, .inr ⟨?_, rfl⟩, M.setMap (es' := setNth es x.1 (k', v, e.2.2)) (clock' := clock) hb (fun y hy => ?_) hb1, fun _ _ => rfl, by simp only [AV.wf], Nat.le_refl _⟩
                · have e1 : (⟨es.map (toE ρ)⟩ : Array MapEntry)[x.1]? = some (toE ρ e) := by simp [he]
                  have e2 : (⟨es.map (toE ρ)⟩ : Array MapEntry).modify x.1 (fun q => { q with key := k', val := v.conc ρ }) = ⟨(setNth es x.1 (k', v, e.2.2)).map (toE ρ)⟩ := by
                    apply Array.ext'
                    rw [setNth_eq, Array.toList_modify, List.map_set]
                    apply List.ext_getElem?
                    intro q
                    rw [List.getElem?_modify, List.getElem?_set]
                    by_cases hq : x.1 = q
                    · subst hq
                      obtain ⟨this, he'⟩ := List.getElem?_eq_some_iff.1 he
                      simp [he', this, toE]
                    · simp [hq]
                  rw [hres]
                  simp only [AV.conc, Instr.mapUpdate, Sem.run_bind, run_underlying hu, Result.andThen_ok, run_gm h1, hck, hrun, Option.map_some, e1, Option.getD_some]
                  have hks := quick_run hk' w
                  simp only [toE] at hks ⊢
                  simp only [hks, Result.andThen_ok, run_sm _ h1]
                  rw [e2]
                · rw [setNth_eq] at hy
                  rcases List.mem_or_eq_of_mem_set hy with hy | hy
                  · exact h2 y hy
                  · rw [hy]; exact hw
              · cases h
            · cases h
          · rename_i hf
            cases h
            have hrun := findKey_run (ρ := ρ) hk hf w
            refine ⟨ρ, _, .inr ⟨?_, rfl⟩, M.setMap (es' := es ++ [(k, v, clock)]) (clock' := clock + 1) hb (fun y hy => ?_) hb1, fun _ _ => rfl, by simp only [AV.wf], Nat.le_refl _⟩
            · rw [hres]
              simp only [AV.conc, Instr.mapUpdate, Sem.run_bind, run_underlying hu, Result.andThen_ok, run_gm h1, hck, hrun, Option.map_none, run_sm _ h1]
              have e2 : (⟨es.map (toE ρ)⟩ : Array MapEntry).push { key := k, val := v.conc ρ, born := clock } = ⟨(es ++ [(k, v, clock)]).map (toE ρ)⟩ := by
                apply Array.ext'
                simp [toE]
              rw [e2]
            · rcases List.mem_append.1 hy with hy | hy
              · exact h2 y hy
              · have : y = (k, v, clock) := by simpa using hy
                rw [this]; exact hw
          · cases h
        · rw [Bool.eq_false_iff.2 hb1] at h; cases h
      · cases h
    · cases h
  · cases h
/-! ### delete -/
def dropNth : List (Value × AV × Nat) → Nat → List (Value × AV × Nat)
  | [], _ => []
  | _ :: l, 0 => l
  | x :: l, i + 1 => x :: dropNth l i
theorem dropNth_eq : ∀ (l : List (Value × AV × Nat)) (i : Nat), dropNth l i = l.eraseIdx i
  | [], i => by simp [dropNth]
  | x :: l, 0 => rfl
  | x :: l, i + 1 => by simp [dropNth, dropNth_eq l i]
theorem map_erase {α β : Type} (f : α → β) : ∀ (l : List α) (i : Nat), (l.map f).eraseIdx i = (l.eraseIdx i).map f
  | [], i => by simp
  | x :: l, 0 => rfl
  | x :: l, i + 1 => by simp [map_erase f l i]
def xDelete (P : Program) (H : Hp) (n : Nat) (ts : Array TypeId) (args : List AV) : Option (AV × Hp × Nat) :=
  match ts[0]?, args with
  | some t, [.mp b, .lit k] => match hv H b, P.underlying t with
    | some (.map es clock), some (.map kt _) => match P.underlying kt, quick P (Instr.checkKey es.isEmpty 10000 kt k) with
      | some kd, some _ => bif Nat.blt (b + 1) 1048576 then (match findA kd k es 0 with
        | some (some x) => some (.tup [], Tr.set 20 H b (some (.map (dropNth es x.1) clock)), n)
        | some none => some (.tup [], Tr.set 20 H b (some (.map es clock)), n)
        | none => none) else none
      | _, _ => none
    | _, _ => none
  | _, _ => none
theorem xDelete_ok (M : Mem w0 out G ρ (hv H) n w) {ts : Array TypeId} {ty : TypeId} {args : List AV} {r : AV × Hp × Nat} (h : xDelete P H n ts args = some r) {res : Result Next}
    (hres : res = ((Builtin.delete_ ts ty ⟨args.map (AV.conc ρ)⟩).run P w).andThen fun v w' => .ok (.value v) w') : Eff w0 out G ρ n r res := by
  unfold xDelete at h
  split at h
  · rename_i t b k ht
    split at h
    · rename_i es clock kt et hb hu
      obtain ⟨h1, h2⟩ := M.obj b _ hb
      have h1 : w.heap[(ρ b).blk]? = some (.map ⟨es.map (toE ρ)⟩ clock) := h1
      split at h
      · rename_i kd u hk hq
        have hck := quick_run hq w
        have hem : (⟨es.map (toE ρ)⟩ : Array MapEntry).isEmpty = es.isEmpty := by cases es <;> simp
        by_cases hb1 : Nat.blt (b + 1) 1048576 = true
        · rw [hb1] at h
          have hb1 : b + 1 < 1048576 := by simpa [Nat.blt_eq] using hb1
          simp only [cond_true] at h
          split at h
          · rename_i x hf
            cases h
            have hrun := findKey_run (ρ := ρ) hk hf w
            refine ⟨ρ, _, .inl ?_, M.setMap (es' := dropNth es x.1) (clock' := clock) hb (fun y hy => h2 y (by rw [dropNth_eq] at hy; exact List.mem_of_mem_eraseIdx hy)) hb1, fun _ _ => rfl, by simp only [AV.wf, AV.wfs], Nat.le_refl _⟩
            rw [hres]
            have e2 : (⟨es.map (toE ρ)⟩ : Array MapEntry).eraseIdxIfInBounds x.1 = ⟨(dropNth es x.1).map (toE ρ)⟩ := by
              apply Array.ext'
              rw [dropNth_eq]
              unfold Array.eraseIdxIfInBounds
              split
              · simp [map_erase]
              · rename_i hlt
                rw [List.eraseIdx_of_length_le (by simpa using hlt)]
            simp only [List.map_cons, List.map_nil, AV.conc, AV.concs, Builtin.delete_, ht, List.getElem?_toArray, List.getElem?_cons_zero, List.getElem?_cons_succ, Sem.run_bind, run_underlying hu, Result.andThen_ok, run_gm h1, hem, hck, hrun, Option.map_some, run_sm _ h1, rp, e2]
          · rename_i hf
            cases h
            have hrun := findKey_run (ρ := ρ) hk hf w
            refine ⟨ρ, _, .inl ?_, M.setMap (es' := es) (clock' := clock) hb h2 hb1, fun _ _ => rfl, by simp only [AV.wf, AV.wfs], Nat.le_refl _⟩
            rw [hres]
            simp only [List.map_cons, List.map_nil, AV.conc, AV.concs, Builtin.delete_, ht, List.getElem?_toArray, List.getElem?_cons_zero, List.getElem?_cons_succ, Sem.run_bind, run_underlying hu, Result.andThen_ok, run_gm h1, hem, hck, hrun, Option.map_none, run_sm _ h1, rp]
          · cases h
        · rw [Bool.eq_false_iff.2 hb1] at h; cases h
      · cases h
    · cases h
  · cases h
/-! ### copy, len of a map -/
def xCopy (P : Program) (H : Hp) (n : Nat) (ts : Array TypeId) (args : List AV) : Option (AV × Hp × Nat) :=
  match ts.toList, args with
  | [dT, _], [.slc b o o' _ len _, .slc b2 o2 o2' _ len2 _] => match sliceElem P dT with
    | none => none
    | some e => match aSize P e, hv H b, hv H b2 with
      | some s, some (.cells l e1 x1), some (.cells l2 _ _) => bif o.beq o' && o2.beq o2' && Nat.blt (b + 1) 1048576 then (match takeN (min len2 len * s) (l2.drop o2) with
        | some vs => bif vs.all AV.single then (match splice l o vs with
          | some l' => some (.lit (.int .i64 (Int.ofNat (min len2 len))), Tr.set 20 H b (some (.cells l' e1 x1)), n)
          | none => none) else none
        | none => none) else none
      | _, _, _ => none
  | [dT, _], [.slc .., .lit (.slice none 0 _)] => match sliceElem P dT with
    | some e => match aSize P e with
      | some _ => some (.lit (.int .i64 0), H, n)
      | none => none
    | none => none
  | _, _ => none
theorem xCopy_ok (M : Mem w0 out G ρ (hv H) n w) {ts : Array TypeId} {ty : TypeId} {args : List AV} {r : AV × Hp × Nat} (h : xCopy P H n ts args = some r) {res : Result Next}
    (hres : res = ((Builtin.copy_ ts ty ⟨args.map (AV.conc ρ)⟩).run P w).andThen fun v w' => .ok (.value v) w') : Eff w0 out G ρ n r res := by
  unfold xCopy at h
  split at h
  · rename_i dT sT b o o' j len c b2 o2 o2' j2 len2 c2 hts
    have hts : ts = #[dT, sT] := by apply Array.ext'; simpa using hts
    subst hts
    split at h
    · cases h
    · rename_i e he
      have hu := sliceElem_eq he
      split at h
      · rename_i s l e1 x1 l2 e2 x2 hs hb hb2
        cases hc : (o.beq o' && o2.beq o2' && Nat.blt (b + 1) 1048576) with
        | false => rw [hc] at h; cases h
        | true =>
          rw [hc] at h
          simp only [Bool.and_eq_true] at hc
          have ho := Nat.eq_of_beq_eq_true hc.1.1
          have ho2 := Nat.eq_of_beq_eq_true hc.1.2
          have hb1 : b + 1 < 1048576 := by simpa [Nat.blt_eq] using hc.2
          subst ho
          subst ho2
          simp only [cond_true] at h
          split at h
          · rename_i vs hv'
            cases h1 : vs.all AV.single with
            | false => rw [h1] at h; cases h
            | true =>
              rw [h1] at h
              simp only [cond_true] at h
              split at h
              · rename_i l' hsp
                cases h
                obtain ⟨g1, rfl⟩ := takeN_eq hv'
                have hlen : ((l2.drop o2).take (min len2 len * s)).length = min len2 len * s := by simp at g1 ⊢; omega
                have hat : CellsAt ρ w b2 o2 ((l2.drop o2).take (min len2 len * s)) := M.cellsAt hb2 o2 _ fun i v hi => by
                  rw [List.getElem?_take] at hi
                  split at hi
                  · rwa [List.getElem?_drop] at hi
                  · cases hi
                obtain ⟨w', hrun, hM⟩ := M.splice (P := P) hb hsp ((wfs_iff ρ n _).2 fun v hv => (wfs_iff ρ n l2).1 (M.obj b2 _ hb2).2 v (List.mem_of_mem_drop (List.mem_of_mem_take hv))) h1 hb1
                have hfc := run_firstCells_some (P := P) w s (min len2 len) ⟨(ρ b2).blk, (ρ b2).base + o2, none⟩ len2 (capOf ρ b2 j2 c2) (((l2.drop o2).take (min len2 len * s)).map (AV.conc ρ)) (by rw [List.length_map, hlen]) (fun q u hq => by
                  rw [List.getElem?_map] at hq
                  obtain ⟨v, hv, rfl⟩ := Option.map_eq_some_iff.1 hq
                  rw [add_off, Nat.add_assoc]
                  exact hat q v hv)
                have hmin : Nat.min len2 len = min len2 len := rfl
                refine ⟨ρ, w', .inl ?_, hM, fun _ _ => rfl, by simp only [AV.wf], Nat.le_refl _⟩
                rw [hres]
                generalize (l2.drop o2).take (min len2 len * s) = T at hfc hrun
                simp only [List.map_cons, List.map_nil, AV.conc, ite_self]
                simp [Builtin.copy_, run_underlying hu, Builtin.lenOf, run_size hs, hmin, hfc, hrun, goInt]
              · cases h
          · cases h
      · cases h
  · rename_i dT sT b o o' j len c c2 hts
    have hts : ts = #[dT, sT] := by apply Array.ext'; simpa using hts
    subst hts
    split at h
    · rename_i e he
      have hu := sliceElem_eq he
      split at h
      · rename_i sz hs
        cases h
        refine ⟨ρ, w, .inl ?_, M, fun _ _ => rfl, by simp only [AV.wf], Nat.le_refl _⟩
        rw [hres]
        simp only [List.map_cons, List.map_nil, AV.conc]
        simp [Builtin.copy_, run_underlying hu, Builtin.lenOf, run_size hs, Builtin.firstCells, storeCells, goInt, Nat.min]
      · cases h
    · cases h
  · cases h
def xLenMap (P : Program) (h : Hv) (ts : Array TypeId) (args : List AV) : Option AV :=
  match ts.toList, args with
  | t :: _, .mp b :: _ => match P.underlying t, h b with
    | some (.map _ _), some (.map es _) => some (.lit (.int .i64 (Int.ofNat es.length)))
    | _, _ => none
  | _, _ => none
theorem xLenMap_ok (M : Mem w0 out G ρ (hv H) n w) {ts : Array TypeId} {ty : TypeId} {args : List AV} {v : AV} (h : xLenMap P (hv H) ts args = some v) : (Builtin.len_ ts ty ⟨args.map (AV.conc ρ)⟩).run P w = .ok (v.conc ρ) w ∧ v.wf ρ n := by
  unfold xLenMap at h
  split at h
  · rename_i t rest b rest' hts
    have ht0 : ts[0]? = some t := by rw [← Array.getElem?_toList, hts]; rfl
    split at h
    · rename_i kt et es clock hu hb
      cases h
      have h1 : w.heap[(ρ b).blk]? = some (.map ⟨es.map (toE ρ)⟩ clock) := (M.obj b _ hb).1
      refine ⟨?_, by simp only [AV.wf]⟩
      simp [Builtin.len_, ht0, run_underlying hu, AV.conc, run_gm h1, goInt]
    · cases h
  · cases h
end
/-! ### what strings.Builder wants -/
section
variable {P : Program} {w0 : World} {out : Nat → Prop} {G : Nat} {ρ : Env} {H : Hp} {n : Nat} {w : World}
def xConvPtr (P : Program) (h : Hv) (s d : TypeId) (x : AV) : Option AV :=
  match x with
  | .ptr b o => match h b with
    | some (.cells l _ x) => match P.underlying s, P.underlying d with
      | some (.pointer t), some .unsafePointer => match aSize P t with
        | some (_ + 1) => bif Nat.blt o l.length then some (.ptr b o) else none
        | _ => none
      | some .unsafePointer, some (.pointer u) => match aSize P u with
        | some _ => bif x.2 && liesAt P P.depth x.1 (l.length / P.cellsOf x.1) o u 1 then some (.ptr b o) else none
        | none => none
      | _, _ => none
    | _ => none
  | _ => none
theorem xConvPtr_ok (M : Mem w0 out G ρ (hv H) n w) {s d : TypeId} {x v : AV} (hw : x.wf ρ n) (h : xConvPtr P (hv H) s d x = some v) : (convert s d (x.conc ρ)).run P w = .ok (v.conc ρ) w ∧ v.wf ρ n := by
  unfold xConvPtr at h
  split at h
  · rename_i b o
    split at h
    · rename_i l e x hb
      obtain ⟨⟨c, t0, hc, hcell, hle, hsz, ht0, hbase, hex⟩, _⟩ := M.obj b _ hb
      split at h
      · rename_i t hs hd
        split at h
        · rename_i k hk
          obtain ⟨j, hj, hjs⟩ := Option.map_eq_some_iff.1 hk
          by_cases ho : Nat.blt o l.length = true
          · rw [ho] at h
            have ho : o < l.length := by simpa [Nat.blt_eq] using ho
            cases h
            refine ⟨?_, hw⟩
            have h1 := hcell o l[o] (List.getElem?_eq_getElem ho)
            have h2 := (Array.getElem?_eq_some_iff.1 h1).1
            exact Lib.run_to_unsafe w _ hs hd hj (by omega) (e := t0) (cells := c.size) (by simp [World.shape?, hc]) h2
          · rw [Bool.eq_false_iff.2 ho] at h; cases h
        · cases h
      · rename_i u hs hd
        split at h
        · rename_i k hk
          obtain ⟨j, hj, hjs⟩ := Option.map_eq_some_iff.1 hk
          cases hcd : (x.2 && liesAt P P.depth x.1 (l.length / P.cellsOf x.1) o u 1) with
          | false => rw [hcd] at h; cases h
          | true =>
            rw [hcd] at h
            cases h
            rw [Bool.and_eq_true] at hcd
            refine ⟨?_, hw⟩
            refine Lib.run_from_unsafe w _ hs hd hj (e := x.1) (cells := l.length) (by simp [World.shape?, hc, ht0, hex hcd.1]) ?_
            show liesAt P P.depth x.1 _ ((ρ b).base + o) u 1 = true
            rw [hbase, Nat.zero_add]
            exact hcd.2
        · cases h
      · cases h
    · cases h
  · cases h
theorem nbeq (a b : Nat) : a.beq b = decide (a = b) := by
  by_cases e : a = b
  · subst e; simp
  · cases hb : a.beq b with
    | false => simp [e]
    | true => exact absurd (Nat.eq_of_beq_eq_true hb) e
def xPtrEq (P : Program) (op : BinOp) (t : TypeId) (x y : AV) : Option AV :=
  match x, y with
  | .ptr b o, .ptr b' o' => match P.underlying t with
    | some (.pointer te) => match aSize P te with
      | some (_ + 1) => bif b.beq b' then (match op with
        | .eql => some (.lit (.bool (o.beq o')))
        | .neq => some (.lit (.bool (!(o.beq o'))))
        | _ => none) else none
      | _ => none
    | _ => none
  | _, _ => none
theorem xPtrEq_ok {op : BinOp} {t : TypeId} {x y v : AV} (h : xPtrEq P op t x y = some v) (xo yo : Operand) (w : World) :
    (do eqGuard op t xo yo (x.conc ρ) (y.conc ρ); binOp op t (x.conc ρ) (y.conc ρ)).run P w = .ok (v.conc ρ) w ∧ v.wf ρ n := by
  unfold xPtrEq at h
  split at h
  · rename_i b o b' o'
    split at h
    · rename_i te hu
      split at h
      · rename_i k hk
        by_cases hb : b.beq b' = true
        · rw [hb] at h
          have hb := Nat.eq_of_beq_eq_true hb
          subst hb
          have heq : (Op.equal t (AV.conc ρ (.ptr b o)) (AV.conc ρ (.ptr b o'))).run P w = .ok (o.beq o') w := by
            have e : ∀ x y, Op.equal t x y = Op.equalIn (9999 + 1) t x y := fun _ _ => rfl
            rw [e]
            generalize 9999 = d
            rw [nbeq]
            by_cases e : o = o'
            · subst e; simp [Op.equalIn, run_underlying hu, AV.conc, run_size hk, sameAddr]
            · simp [Op.equalIn, run_underlying hu, AV.conc, run_size hk, sameAddr, e]
          simp only [cond_true] at h
          split at h
          · cases h
            refine ⟨?_, by simp only [AV.wf]⟩
            simp only [AV.conc] at heq ⊢
            simp [eqGuard, binOp, heq]
          · cases h
            refine ⟨?_, by simp only [AV.wf]⟩
            simp only [AV.conc] at heq ⊢
            simp [eqGuard, binOp, heq]
          · cases h
        · rw [Bool.eq_false_iff.2 hb] at h; cases h
      · cases h
    · cases h
  · cases h
def xSliceData (args : List AV) : Option AV :=
  match args with
  | [.slc b o o' _ len _] => bif o.beq o' && Nat.blt 0 len then some (.ptr b o) else none
  | _ => none
theorem xSliceData_ok {args : List AV} {v : AV} (hw : ∀ v ∈ args, v.wf ρ n) (h : xSliceData args = some v) (ts : Array TypeId) (ty : TypeId) (w : World) :
    (Builtin.unsafeSliceData_ ts ty ⟨args.map (AV.conc ρ)⟩).run P w = .ok (v.conc ρ) w ∧ v.wf ρ n := by
  unfold xSliceData at h
  split at h
  · rename_i b o o' j len c
    cases hc : (o.beq o' && Nat.blt 0 len) with
    | false => rw [hc] at h; cases h
    | true =>
      rw [hc] at h
      cases h
      rw [Bool.and_eq_true] at hc
      have ho := Nat.eq_of_beq_eq_true hc.1
      have hl : 0 < len := by simpa [Nat.blt_eq] using hc.2
      subst ho
      have hwf := hw _ (List.mem_singleton.2 rfl)
      simp only [AV.wf] at hwf
      have hcap : capOf ρ b j c ≠ 0 := by
        cases c with
        | none => have := hwf.2.1 rfl; simp only [capOf]; omega
        | some k => have := hwf.2.2 k rfl; simp only [capOf]; omega
      refine ⟨?_, hwf.1⟩
      simp only [List.map_cons, List.map_nil, AV.conc, ite_self]
      exact Lib.run_unsafeSliceData_row _ _ _ _ _ _ hcap
  · cases h
def bytesOf : List AV → Option (List UInt8)
  | [] => some []
  | .lit (.int .u8 (.ofNat k)) :: l => bif Nat.blt k 256 then (bytesOf l).map (UInt8.ofNat k :: ·) else none
  | _ => none
theorem bytesOf_eq : ∀ {l : List AV} {bs : List UInt8}, bytesOf l = some bs → l = bs.map fun b => .lit (.int .u8 b.toNat)
  | [], bs, h => by simp only [bytesOf, Option.some.injEq] at h; subst h; rfl
  | v :: l, bs, h => by
    unfold bytesOf at h
    split at h
    · rename_i heq; cases heq
    · rename_i k l' heq
      cases heq
      by_cases hk : Nat.blt k 256 = true
      · rw [hk] at h
        have hk : k < 256 := by simpa [Nat.blt_eq] using hk
        obtain ⟨bs', h', rfl⟩ := Option.map_eq_some_iff.1 h
        rw [bytesOf_eq h']
        simp [Nat.mod_eq_of_lt hk]
      · rw [Bool.eq_false_iff.2 hk] at h; cases h
    · cases h
def xStrOf (P : Program) (H : Hp) (n : Nat) (ts : Array TypeId) (args : List AV) : Option (AV × Hp × Nat) :=
  match ts.toList, args with
  | [pt, _], [.ptr b 0, .lit (.int .i64 (.ofNat (k + 1)))] => match hv H b with
    | some (.cells l _ x) => match P.underlying pt, takeN (k + 1) l with
      | some (.pointer e), some vs => match bytesOf vs with
        | some bs => bif e.beq x.1 && (P.cellsOf e).beq 1 && Nat.blt (b + 1) 1048576 && Nat.blt k 16777216 then some (.lit (.string ⟨bs.toArray⟩), Tr.set 20 H b none, n) else none
        | none => none
      | _, _ => none
    | _ => none
  | _, _ => none
theorem Mem.forget {h : Hv} (M : Mem w0 out G ρ h n w) {b : Nat} {ao : AO} (hb : h b = some ao) {w' : World} (ho : ∀ x, x ≠ (ρ b).blk → w'.heap[x]? = w.heap[x]?) (hsz : w'.heap.size = w.heap.size) (he : SameEnv w w' := by exact ⟨rfl, rfl, rfl⟩) : Mem w0 out G ρ (upd h b none) n w' := by
  have get : ∀ {x y}, upd h b none x = some y → h x = some y ∧ x ≠ b := fun {x y} hx => by
    by_cases e : x = b
    · subst e; rw [upd_same] at hx; cases hx
    · rw [upd_other _ _ e] at hx; exact ⟨hx, e⟩
  exact ⟨fun c o hc => ⟨objOk_ext (M.lt c o (get hc).1) (fun _ _ => rfl) (M.obj c o (get hc).1).2 (ho _ fun e' => (get hc).2 (M.inj c b o ao (get hc).1 hb e')) (M.obj c o (get hc).1).1, (M.obj c o (get hc).1).2⟩,
    fun c o hc => M.lt c o (get hc).1, fun c o hc => by rw [hsz]; exact M.blk c o (get hc).1, fun c c' o o' hc hc' => M.inj c c' o o' (get hc).1 (get hc').1,
    fun c hc => by
      obtain ⟨h1, h2⟩ := M.outs c hc
      exact ⟨by omega, by rw [ho c fun e => M.apart b ao hb (e ▸ hc)]; exact h2⟩,
    fun c o hc => M.apart c o (get hc).1, M.glob, M.globs, M.env.trans he⟩
theorem xStrOf_ok (M : Mem w0 out G ρ (hv H) n w) {ts : Array TypeId} {ty : TypeId} {args : List AV} {r : AV × Hp × Nat} (h : xStrOf P H n ts args = some r) {res : Result Next}
    (hres : res = ((Builtin.unsafeString_ ts ty ⟨args.map (AV.conc ρ)⟩).run P w).andThen fun v w' => .ok (.value v) w') : Eff w0 out G ρ n r res := by
  unfold xStrOf at h
  split at h
  · rename_i pt it b k hts
    have hts : ts = #[pt, it] := by apply Array.ext'; simpa using hts
    subst hts
    split at h
    · rename_i l e0 x hb
      split at h
      · rename_i e vs hu hvs
        split at h
        · rename_i bs hbs
          cases hcd : (e.beq x.1 && (P.cellsOf e).beq 1 && Nat.blt (b + 1) 1048576 && Nat.blt k 16777216) with
          | false => rw [hcd] at h; cases h
          | true =>
            rw [hcd] at h
            cases h
            simp only [Bool.and_eq_true, Nat.blt_eq] at hcd
            obtain ⟨⟨⟨c1, c2⟩, c3⟩, c4⟩ := hcd
            have c1 := Nat.eq_of_beq_eq_true c1
            have c2 := Nat.eq_of_beq_eq_true c2
            obtain ⟨⟨c, t0, hc, hcell, hle, hsz, ht0, hbase, _⟩, _⟩ := M.obj b _ hb
            obtain ⟨g1, rfl⟩ := takeN_eq hvs
            have hbe := bytesOf_eq hbs
            have hlen : bs.length = k + 1 := by
              have := congrArg List.length hbe
              simp at this; omega
            have hcs : l.length ≤ c.size := by
              rcases Nat.eq_zero_or_pos l.length with e | e
              · omega
              · have h1 := hcell (l.length - 1) l[l.length - 1] (List.getElem?_eq_getElem (by omega))
                have := (Array.getElem?_eq_some_iff.1 h1).1
                omega
            have hrun := Lib.run_unsafeString_row (P := P) w pt it ty e hu c2 (ρ b).blk c.size (by simp [World.shape?, hc, ht0, c1]) bs (fun e => by rw [e] at hlen; simp at hlen) (by omega) (by omega) (fun j y hj => by
              rw [add_off, Nat.zero_add]
              have h1 : l[j]? = some (.lit (.int .u8 y.toNat)) := by
                have h2 : (l.take (k + 1))[j]? = some (.lit (.int .u8 y.toNat)) := by rw [hbe, List.getElem?_map, hj]; rfl
                rw [List.getElem?_take] at h2
                split at h2
                · exact h2
                · cases h2
              have h3 := hcell j _ h1
              rw [hbase, Nat.zero_add] at h3
              simp [World.cell?, hc, h3, AV.conc])
            refine ⟨ρ, w.freeze ⟨(ρ b).blk, 0, none⟩ bs.length, .inl ?_, ?_, fun _ _ => rfl, by simp only [AV.wf], Nat.le_refl _⟩
            · rw [hres]
              have hk : (Int.ofNat (k + 1)) = (bs.length : Int) := by rw [hlen]; rfl
              simp only [List.map_cons, List.map_nil, AV.conc, hbase, Nat.zero_add, hk]
              rw [hrun]
              rfl
            · show Mem w0 out G ρ (hv (Tr.set 20 H b none)) n _
              rw [hv_set H b none c3]
              refine M.forget hb (fun x hx => ?_) ?_ (by unfold World.freeze; split <;> exact ⟨rfl, rfl, rfl⟩)
              · unfold World.freeze
                split
                · rfl
                · show (w.heap.modify _ _)[x]? = _
                  rw [Array.getElem?_modify, if_neg (fun e => hx e.symm)]
              · unfold World.freeze
                split
                · rfl
                · simp
        · cases h
      · cases h
    · cases h
  · cases h
end
/-! ### calls -/
def callable (P : Program) (f : FuncId) : Bool := match P.funcs[f]? with
  | some fn => !(fn.name == "runtime.NumGoroutine") && fn.body.isSome
  | none => false
theorem callable_run {P : Program} {f : FuncId} (h : callable P f = true) (args : Array Value) (w : World) : (callFunc f args).run P w = .ok (.enter f args) w := by
  unfold callable at h
  split at h
  · rename_i fn hf
    simp only [Bool.and_eq_true, Bool.not_eq_true'] at h
    obtain ⟨h1, h2⟩ := h
    have h3 : ¬ fn.body = none := fun hb => by rw [hb] at h2; simp at h2
    have h1' : ¬ fn.name = "runtime.NumGoroutine" := by simpa using h1
    simp [callFunc, program, Sem.run, hf, h1', h3]
  · cases h
/-- what is known of calls: whoever answers is right -/
abbrev CallF := FuncId → List AV → Hp → Nat → Option (AV × Hp × Nat)
def CallPost (w0 : World) (out : Nat → Prop) (G : Nat) (ρ : Env) (n : Nat) (r : AV × Hp × Nat) (e : Ending) (w' : World) : Prop :=
  ∃ ρ', e = .returned (r.1.conc ρ') ∧ Mem w0 out G ρ' (hv r.2.1) r.2.2 w' ∧ (∀ b, b < n → ρ' b = ρ b) ∧ r.1.wf ρ' r.2.2 ∧ n ≤ r.2.2
def CallOk (P : Program) (G : Nat) (call : CallF) : Prop :=
  ∀ f args H n r, call f args H n = some r → ∀ w0 out ρ w, Mem w0 out G ρ (hv H) n w → (∀ v ∈ args, v.wf ρ n) → Calls P f ⟨args.map (AV.conc ρ)⟩ w (CallPost w0 out G ρ n r)
/-- the fence that lets all by, in a round or in none -/
abbrev FW (ro : Option Nat) : Fence := { fn := fun _ => True, depth := none, alive := false, round := ro }
theorem callsIn_FW {ro : Option Nat} {k : Nat} {P : Program} {f : FuncId} {args : Array Value} {w : World} {R : Ending → World → Prop} (h : Calls P f args w R) : CallsIn (FW ro) k P f args w R := callsIn_wide.2 h
theorem semAt_eq {ro : Option Nat} {ev : Operand → Value} {o : Oper} (h : ∀ c, o.op ≠ .defer c) : Oper.semAt ro ev o = execOp ev o := by
  unfold Oper.semAt
  split
  · rename_i c ho; exact absurd ho (h c)
  · rfl
/-- rounds of a range over a function -/
abbrev RndF := Nat → List AV → Hp → Nat → Option (Hp × Nat)
def RndPost (w0 : World) (out : Nat → Prop) (G : Nat) (ρ : Env) (n : Nat) (r : Hp × Nat) (e : Ending) (w' : World) : Prop :=
  ∃ ρ', e = .returned (.bool true) ∧ Mem w0 out G ρ' (hv r.1) r.2 w' ∧ (∀ b, b < n → ρ' b = ρ b) ∧ n ≤ r.2
def RndOk (P : Program) (G : Nat) (rnd : RndF) : Prop :=
  ∀ b args H n r, rnd b args H n = some r → ∀ ro k w0 out ρ w, Mem w0 out G ρ (hv H) n w → (∀ v ∈ args, v.wf ρ n) →
    ∃ f tmps assign body, (Instr.yield (ρ b).blk ⟨args.map (AV.conc ρ)⟩).run P w = .ok (.round (ρ b).blk f tmps assign body) w ∧ RoundIn (FW ro) k P (ρ b).blk f tmps assign body w (RndPost w0 out G ρ n r)
/-- same: functions without a body that hand back what they are handed -/
structure Cal where
  call : CallF
  rnd : RndF
  ext : FuncId → List AV → Option AV
  idle : FuncId → List AV → Bool
def ExtOk (P : Program) (ext : FuncId → List AV → Option AV) : Prop := ∀ f l v, ext f l = some v → ∀ ρ, (∀ w, (callFunc f ⟨l.map (AV.conc ρ)⟩).run P w = .ok (.value (v.conc ρ)) w) ∧ ∀ n, (∀ u ∈ l, u.wf ρ n) → v.wf ρ n
/-- idle: deferred functions that do nothing where nothing is to be recovered -/
def IdleOk (P : Program) (idle : FuncId → List AV → Bool) : Prop := ∀ f l, idle f l = true → ∀ (m : Nat) (ρ : Env) (w : World),
  CallsDIn (FW none) m P f ⟨l.map (AV.conc ρ)⟩ .returning w fun e u' w' => (∃ v, e = .returned v) ∧ u' = .returning ∧ RowKit.Below w.heap.size w w'
def CalOk (P : Program) (G : Nat) (C : Cal) : Prop := CallOk P G C.call ∧ RndOk P G C.rnd ∧ ExtOk P C.ext ∧ IdleOk P C.idle
def xMethod (P : Program) (t : TypeId) (name : String) : Option FuncId :=
  match P.info? t, P.underlying t with
  | some i, some (.pointer _) => match i.methods.find? (fun m => m.name == name) with
    | some m => match m.path.toList, m.func with
      | [], some (f, true) => bif callable P f then some f else none
      | _, _ => none
    | none => none
  | _, _ => none
def xCallVal (P : Program) (C : Cal) (H : Hp) (n : Nat) (f : AV) (args : List AV) : Option (AV × Hp × Nat) :=
  match f with
  | .lit (.func (.func f) xs ys) => bif callable P f && xs.isEmpty && ys.isEmpty then C.call f args H n else bif xs.isEmpty && ys.isEmpty then (match C.ext f args with
    | some x => some (x, H, n)
    | none => none) else none
  | .fn (.func f) xs ys => bif callable P f then C.call f (xs ++ args ++ ys) H n else none
  | .yld b => (C.rnd b args H n).map fun r => (.lit (.bool true), r.1, r.2)
  | _ => none
def xCallInv (P : Program) (C : Cal) (H : Hp) (n : Nat) (m : String) (x : AV) (args : List AV) : Option (AV × Hp × Nat) :=
  match x with
  | .ifc t v => match xMethod P t m with
    | some f => C.call f (v :: args) H n
    | none => none
  | _ => none
def xCallEff (P : Program) (C : Cal) (ev : Operand → AV) (H : Hp) (n : Nat) (c : Call) (ty : TypeId) : Option (AV × Hp × Nat) :=
  match c.callee with
  | .value f => xCallVal P C H n (ev f) (c.args.toList.map ev)
  | .invoke x m => xCallInv P C H n m (ev x) (c.args.toList.map ev)
  | .builtin .append => xAppend P H n c.argTypes (c.args.toList.map ev)
  | .builtin .copy => xCopy P H n c.argTypes (c.args.toList.map ev)
  | .builtin .delete => xDelete P H n c.argTypes (c.args.toList.map ev)
  | .builtin .unsafeSliceData => (xSliceData (c.args.toList.map ev)).map fun v => (v, H, n)
  | .builtin .unsafeString => xStrOf P H n c.argTypes (c.args.toList.map ev)
  | .builtin .len => match xCallPure P c ty ev with
    | some v => some (v, H, n)
    | none => (xLenMap P (hv H) c.argTypes (c.args.toList.map ev)).map fun v => (v, H, n)
  | _ => (xCallPure P c ty ev).map fun v => (v, H, n)
def xEff (P : Program) (C : Cal) (ev : Operand → AV) (H : Hp) (n : Nat) (o : Oper) : Option (AV × Hp × Nat) :=
  match o.op with
  | .load t x => (xLoad P (hv H) t (ev x)).map fun v => (v, H, n)
  | .alloc t => xAlloc P H n t
  | .box t x => xBox H n t (ev x)
  | .buildSlice t len ps => xBuildSlice P H n t len (ps.toList.map fun p => (p.1, ev p.2))
  | .store t x v => xStore P H n t (ev x) (ev v)
  | .makeSlice t l c => xMakeSlice P H n t (ev l) (ev c)
  | .makeMap t r => xMakeMap P H n t (r.map ev)
  | .lookup t x i ok => (xLookup P (hv H) t (ev x) (ev i) ok).map fun v => (v, H, n)
  | .mapUpdate t m k v => xMapSet P H n t (ev m) (ev k) (ev v)
  | .insert t m k v => xMapSet P H n t (ev m) (ev k) (ev v)
  | .call c => xCallEff P C ev H n c o.type
  | .convert s d x => match xConv P s d (ev x) with
    | some v => some (v, H, n)
    | none => (xConvPtr P (hv H) s d (ev x)).map fun v => (v, H, n)
  | .binOp op t x y _ => match xBin P op t x y (ev x) (ev y) with
    | some v => some (v, H, n)
    | none => (xPtrEq P op t (ev x) (ev y)).map fun v => (v, H, n)
  | _ => (xPure P ev o).map fun v => (v, H, n)
section
variable {P : Program} {w0 : World} {out : Nat → Prop} {G : Nat} {ρ : Env} {H : Hp} {n : Nat} {w : World}
theorem eff_wp {ro : Option Nat} {k : Nat} {a : Act} {o : Oper} {r : AV × Hp × Nat} (hnd : ∀ c, o.op ≠ .defer c) (he : Eff w0 out G ρ n r ((execOp a.eval o).run P w)) {next : Act → World → Prop} {Q : Exit → Act → World → Prop}
    (hn : ∀ ρ' w', Mem w0 out G ρ' (hv r.2.1) r.2.2 w' → (∀ b, b < n → ρ' b = ρ b) → r.1.wf ρ' r.2.2 → n ≤ r.2.2 → next (a.put o.dst (r.1.conc ρ')) w') : o.wpIn (FW ro) k P a w next Q := by
  obtain ⟨ρ', w', hr, hM, hρ, hwf, hle⟩ := he
  refine ⟨fun _ _ => trivial, ?_⟩
  rw [semAt_eq hnd]
  rcases hr with hr | ⟨hr, hu⟩
  · rw [hr]; exact hn ρ' w' hM hρ hwf hle
  · rw [hr]
    have := hn ρ' w' hM hρ hwf hle
    rw [hu] at this
    exact this
theorem call_wp {ro : Option Nat} {k : Nat} {call : CallF} (hc : CallOk P G call) (M : Mem w0 out G ρ (hv H) n w) {f : FuncId} {args : List AV} {r : AV × Hp × Nat} (h : call f args H n = some r) (hw : ∀ v ∈ args, v.wf ρ n) {a : Act} {o : Oper} (hnd : ∀ c, o.op ≠ .defer c)
    (hrun : (execOp a.eval o).run P w = .ok (.enter f ⟨args.map (AV.conc ρ)⟩) w) {next : Act → World → Prop} {Q : Exit → Act → World → Prop}
    (hn : ∀ ρ' w', Mem w0 out G ρ' (hv r.2.1) r.2.2 w' → (∀ b, b < n → ρ' b = ρ b) → r.1.wf ρ' r.2.2 → n ≤ r.2.2 → next (a.put o.dst (r.1.conc ρ')) w') : o.wpIn (FW ro) k P a w next Q := by
  refine ⟨fun _ _ => trivial, ?_⟩
  rw [semAt_eq hnd, hrun]
  refine ⟨fun e => (by cases e), CallsIn.mono (callsIn_FW (hc f args H n r h w0 out ρ w M hw)) ?_⟩
  rintro e w' ⟨ρ', rfl, hM, hρ, hwf, hle⟩
  exact hn ρ' w' hM hρ hwf hle
theorem xEff_ok {ro : Option Nat} {k : Nat} {C : Cal} (hc : CalOk P G C) (M : Mem w0 out G ρ (hv H) n w) {ev : Operand → AV} {a : Act} {o : Oper} {r : AV × Hp × Nat} (he : ∀ x, a.eval x = (ev x).conc ρ) (hw : ∀ x, (ev x).wf ρ n) (h : xEff P C ev H n o = some r)
    {next : Act → World → Prop} {Q : Exit → Act → World → Prop}
    (hn : ∀ ρ' w', Mem w0 out G ρ' (hv r.2.1) r.2.2 w' → (∀ b, b < n → ρ' b = ρ b) → r.1.wf ρ' r.2.2 → n ≤ r.2.2 → next (a.put o.dst (r.1.conc ρ')) w') : o.wpIn (FW ro) k P a w next Q := by
  have hnd : ∀ c, o.op ≠ .defer c := fun c ho => by
    simp [xEff, ho, xPure] at h
  have same : ∀ {v : AV}, (execOp a.eval o).run P w = .ok (.value (v.conc ρ)) w → v.wf ρ n → r = (v, H, n) → Eff w0 out G ρ n r ((execOp a.eval o).run P w) := by
    intro v h1 h2 h3
    subst h3
    exact ⟨ρ, w, .inl h1, M, fun _ _ => rfl, h2, Nat.le_refl _⟩
  have hwl : ∀ (xs : Array Operand), ∀ v ∈ xs.toList.map ev, v.wf ρ n := fun xs v hv => by obtain ⟨x, _, rfl⟩ := List.mem_map.1 hv; exact hw x
  have hwp : ∀ (ps : Array (Nat × Operand)), ∀ p ∈ ps.toList.map (fun p => (p.1, ev p.2)), p.2.wf ρ n := fun ps p hp => by obtain ⟨x, _, rfl⟩ := List.mem_map.1 hp; exact hw x.2
  have pure_case : ∀ {v : AV}, xPure P ev o = some v → r = (v, H, n) → o.wpIn (FW ro) k P a w next Q := fun hv hr => by
    obtain ⟨g1, g2⟩ := xPure_ok he hw hv
    exact eff_wp hnd (same (g1 w) g2 hr) hn
  unfold xEff at h
  split at h
  · rename_i t x ho
    obtain ⟨v, hv, rfl⟩ := Option.map_eq_some_iff.1 h
    obtain ⟨b, o', hx, g1, g2⟩ := xLoad_ok (w0 := w0) (out := out) (G := G) (ρ := ρ) (n := n) hv
    obtain ⟨g3, g4⟩ := g2 w M
    refine eff_wp hnd (same ?_ g4 rfl) hn
    simp only [execOp, ho, he, Sem.run_bind, g1 w g3, Result.andThen_ok, rp]
  · rename_i t ho
    exact eff_wp hnd (xAlloc_ok M h ho) hn
  · rename_i t x ho
    exact eff_wp hnd (xBox_ok M h (hw x) ho (he x)) hn
  · rename_i t len ps ho
    refine eff_wp hnd (xBuildSlice_ok M h (hwp ps) ?_) hn
    simp only [execOp, ho, parts_ev he, Sem.run_bind, rp]
  · rename_i t x v ho
    exact eff_wp hnd (xStore_ok M h (hw v) ho (he x) (he v)) hn
  · rename_i t l c ho
    refine eff_wp hnd (xMakeSlice_ok M h ?_) hn
    simp only [execOp, ho, he, Sem.run_bind, rp]
  · rename_i t x ho
    refine eff_wp hnd (xMakeMap_ok M h ?_) hn
    simp only [execOp, ho, opt_ev he, Sem.run_bind, rp]
  · rename_i t x i ok ho
    obtain ⟨v, hv, rfl⟩ := Option.map_eq_some_iff.1 h
    obtain ⟨g1, g2⟩ := xLookup_ok M hv
    refine eff_wp hnd (same ?_ g2 rfl) hn
    simp only [execOp, ho, he, Sem.run_bind, g1, Result.andThen_ok, rp]
  · rename_i t m k v ho
    refine eff_wp hnd (xMapSet_ok M h (hw v) ?_) hn
    simp only [execOp, ho, he, Sem.run_bind, rp]
  · rename_i t m k v ho
    refine eff_wp hnd (xMapSet_ok M h (hw v) ?_) hn
    simp only [execOp, ho, he, Sem.run_bind, rp]
  · rename_i c ho
    unfold xCallEff at h
    have pureC : ∀ {v : AV}, xCallPure P c o.type ev = some v → r = (v, H, n) → o.wpIn (FW ro) k P a w next Q := fun hv hr => pure_case (by unfold xPure; rw [ho]; exact hv) hr
    split at h
    · rename_i f hf
      unfold xCallVal at h
      have hargs := map_ev he c.args
      split at h
      · rename_i g xs ys hev
        cases hcc : (callable P g && xs.isEmpty && ys.isEmpty) with
        | false =>
          rw [hcc] at h
          simp only [cond_false] at h
          cases hss : (xs.isEmpty && ys.isEmpty) with
          | false => rw [hss] at h; cases h
          | true =>
            rw [hss] at h
            simp only [cond_true] at h
            simp only [Bool.and_eq_true, Array.isEmpty_iff] at hss
            obtain ⟨rfl, rfl⟩ := hss
            split at h
            · rename_i x hx
              cases h
              have hfv : a.eval f = .func (.func g) #[] #[] := by rw [he, hev]; rfl
              obtain ⟨h1, h2⟩ := hc.2.2.1 g _ _ hx ρ
              refine eff_wp hnd (same ?_ (h2 n (hwl c.args)) rfl) hn
              simp only [execOp, ho, resolve, hf, hfv, Deferred.ofValue, Sem.run_bind, rp, Result.andThen_ok, invoke, hargs]
              have := h1 w
              simpa using this
            · cases h
        | true =>
          rw [hcc] at h
          simp only [Bool.and_eq_true, Array.isEmpty_iff] at hcc
          obtain ⟨⟨c1, rfl⟩, rfl⟩ := hcc
          refine call_wp hc.1 M h (hwl c.args) hnd ?_ hn
          have hfv : a.eval f = .func (.func g) #[] #[] := by rw [he, hev]; rfl
          simp only [execOp, ho, resolve, hf, hfv, Deferred.ofValue, Sem.run_bind, rp, Result.andThen_ok, invoke, hargs]
          rw [callable_run c1]
          simp
      · rename_i g xs ys hev
        cases hcc : callable P g with
        | false => rw [hcc] at h; cases h
        | true =>
          rw [hcc] at h
          have hwf := hw f
          rw [hev] at hwf
          simp only [AV.wf] at hwf
          refine call_wp hc.1 M h (fun v hv => ?_) hnd ?_ hn
          · rcases List.mem_append.1 hv with hv | hv
            · rcases List.mem_append.1 hv with hv | hv
              · exact (wfs_iff ρ n _).1 hwf.1 v hv
              · exact hwl c.args v hv
            · exact (wfs_iff ρ n _).1 hwf.2 v hv
          · have hfv : a.eval f = .func (.func g) ⟨xs.map (AV.conc ρ)⟩ ⟨ys.map (AV.conc ρ)⟩ := by rw [he, hev]; simp [AV.conc, concs_map]
            simp only [execOp, ho, resolve, hf, hfv, Deferred.ofValue, Sem.run_bind, rp, Result.andThen_ok, invoke, hargs]
            rw [callable_run hcc]
            congr 2
            apply Array.ext'
            simp
      · rename_i b hev
        obtain ⟨r', hr', rfl⟩ := Option.map_eq_some_iff.1 h
        obtain ⟨f', tmps, assign, body, hy, hR⟩ := hc.2.1 b _ H n r' hr' ro (k - 1) w0 out ρ w M (hwl c.args)
        have hfv : a.eval f = .func (.yield (ρ b).blk) #[] #[] := by rw [he, hev]; rfl
        refine ⟨fun _ _ => trivial, ?_⟩
        rw [semAt_eq hnd]
        have hrun : (execOp a.eval o).run P w = .ok (.round (ρ b).blk f' tmps assign body) w := by
          simp only [execOp, ho, resolve, hf, hfv, Deferred.ofValue, Sem.run_bind, rp, Result.andThen_ok, invoke, hargs]
          simpa using hy
        rw [hrun]
        refine ⟨fun e => (by cases e), RoundIn.mono hR ?_⟩
        rintro e w' ⟨ρ', rfl, hM, hρ, hle⟩
        exact hn ρ' w' hM hρ (by simp only [AV.wf]) hle
      · cases h
    · rename_i x m hf
      unfold xCallInv at h
      split at h
      · rename_i t v hev
        split at h
        · rename_i g hg
          have hwf := hw x
          rw [hev] at hwf
          simp only [AV.wf] at hwf
          refine call_wp hc.1 M h (fun u hu => ?_) hnd ?_ hn
          · rcases List.mem_cons.1 hu with rfl | hu
            · exact hwf
            · exact hwl c.args u hu
          · have hxv : a.eval x = .iface t (v.conc ρ) := by rw [he, hev]; rfl
            have hargs := map_ev he c.args
            unfold xMethod at hg
            split at hg
            · rename_i i e hi hu
              split at hg
              · rename_i mm hm
                split at hg
                · rename_i f' hp hfn
                  cases hcc : callable P f' with
                  | false => rw [hcc] at hg; cases hg
                  | true =>
                    rw [hcc] at hg
                    cases hg
                    have hmeth : ∀ k, (method (k + 1) t (v.conc ρ) m).run P w = .ok (g, v.conc ρ) w := fun k => by
                      simp only [method, Sem.run_bind, typeInfo, Result.andThen_ok]
                      simp [program, Sem.run, hi, hm, hp, hfn, follow, receiverAt, run_underlying hu, Place.get]
                    simp only [execOp, ho, resolve, hf, hxv, Sem.run_bind, rp, Result.andThen_ok, invoke, hargs]
                    have e0 : (#[Value.iface t (v.conc ρ)] ++ (⟨(c.args.toList.map ev).map (AV.conc ρ)⟩ : Array Value))[0]? = some (.iface t (v.conc ρ)) := by simp
                    have e1 : (#[Value.iface t (v.conc ρ)] ++ (⟨(c.args.toList.map ev).map (AV.conc ρ)⟩ : Array Value)).extract 1 (#[Value.iface t (v.conc ρ)] ++ (⟨(c.args.toList.map ev).map (AV.conc ρ)⟩ : Array Value)).size = ⟨(c.args.toList.map ev).map (AV.conc ρ)⟩ := by
                      apply Array.ext'; simp; exact List.take_of_length_le (by simp)
                    rw [e0]
                    simp only [e1, callMethod, Sem.run_bind]
                    have e2 : ∀ q : Program, q.types.size + Made.depth = (q.types.size + Made.depth - 1) + 1 := fun q => by unfold Made.depth; omega
                    simp only [program, Sem.run, Result.andThen_ok]
                    rw [e2 P, hmeth]
                    simp only [Result.andThen_ok]
                    rw [callable_run hcc]
                    congr 2
                    apply Array.ext'
                    simp
                · cases hg
              · cases hg
            · cases hg
        · cases h
      · cases h
    · rename_i hf
      refine eff_wp hnd (xAppend_ok (ty := o.type) M h (hwl c.args) ?_) hn
      simp only [execOp, ho, resolve, hf, Sem.run_bind, rp, Result.andThen_ok, invoke, builtin, map_ev he]
    · rename_i hf
      refine eff_wp hnd (xCopy_ok (ty := o.type) M h ?_) hn
      simp only [execOp, ho, resolve, hf, Sem.run_bind, rp, Result.andThen_ok, invoke, builtin, map_ev he]
    · rename_i hf
      refine eff_wp hnd (xDelete_ok (ty := o.type) M h ?_) hn
      simp only [execOp, ho, resolve, hf, Sem.run_bind, rp, Result.andThen_ok, invoke, builtin, map_ev he]
    · rename_i hf
      obtain ⟨v, hv, rfl⟩ := Option.map_eq_some_iff.1 h
      obtain ⟨g1, g2⟩ := xSliceData_ok (P := P) (ρ := ρ) (n := n) (hwl c.args) hv c.argTypes o.type w
      refine eff_wp hnd (same ?_ g2 rfl) hn
      simp only [execOp, ho, resolve, hf, Sem.run_bind, rp, Result.andThen_ok, invoke, builtin, map_ev he, g1]
    · rename_i hf
      refine eff_wp hnd (xStrOf_ok (ty := o.type) M h ?_) hn
      simp only [execOp, ho, resolve, hf, Sem.run_bind, rp, Result.andThen_ok, invoke, builtin, map_ev he]
    · rename_i hf
      split at h
      · rename_i v hv
        cases h
        exact pureC hv rfl
      · obtain ⟨v, hv, rfl⟩ := Option.map_eq_some_iff.1 h
        obtain ⟨g1, g2⟩ := xLenMap_ok (ty := o.type) M hv
        refine eff_wp hnd (same ?_ g2 rfl) hn
        simp only [execOp, ho, resolve, hf, Sem.run_bind, rp, Result.andThen_ok, invoke, builtin, map_ev he, g1]
    · obtain ⟨v, hv, rfl⟩ := Option.map_eq_some_iff.1 h
      exact pureC hv rfl
  · rename_i sT dT x ho
    split at h
    · rename_i v hv
      cases h
      exact pure_case (by unfold xPure; rw [ho]; exact hv) rfl
    · obtain ⟨v, hv, rfl⟩ := Option.map_eq_some_iff.1 h
      obtain ⟨g1, g2⟩ := xConvPtr_ok M (hw x) hv
      refine eff_wp hnd (same ?_ g2 rfl) hn
      simp only [execOp, ho, he, Sem.run_bind, g1, Result.andThen_ok, rp]
  · rename_i op t x y yt ho
    split at h
    · rename_i v hv
      cases h
      exact pure_case (by unfold xPure; rw [ho]; exact hv) rfl
    · obtain ⟨v, hv, rfl⟩ := Option.map_eq_some_iff.1 h
      obtain ⟨g1, g2⟩ := xPtrEq_ok (ρ := ρ) (n := n) hv x y w
      refine eff_wp hnd (same ?_ g2 rfl) hn
      have e : execOp a.eval o = (do pure (.value (← (do eqGuard op t x y ((ev x).conc ρ) ((ev y).conc ρ); binOp op t ((ev x).conc ρ) ((ev y).conc ρ))))) := by
        simp only [execOp, ho, he]
      rw [e, Sem.run_bind, g1]
      rfl
  · obtain ⟨v, hv, rfl⟩ := Option.map_eq_some_iff.1 h
    exact pure_case hv rfl
end
end
end Cx
end Go.Proofs.YtboondbognbnnaaGreatDoor

set_option linter.unusedVariables false
set_option linter.unusedSimpArgs false
namespace Go.Proofs.YtboondbognbnnaaGreatDoor
namespace Cx
noncomputable section
/-! ### who hangs on whom -/
def maskOf (done : List Nat) (o : Oper) : Nat := o.after.toList.foldl (fun s e => bif Region.binds .any e then s ||| 2 ^ e.on ||| done.getD e.on 0 else s) 0
def masks : List Oper → List Nat → List Nat
  | [], d => d
  | o :: l, d => masks l (d ++ [maskOf d o])
def Closed (ops : Array Oper) (listed : Array Bool) : Prop := ∀ x ox, ops[x]? = some ox → listed.getD x true = true → ∀ e ∈ ox.after, Region.binds .any e = true → listed.getD e.on false = true
def DepsIn (listed : Array Bool) (o : Oper) : Prop := ∀ e ∈ o.after, Region.binds .any e = true → listed.getD e.on false = true
theorem maskOf_bit {done : List Nat} {o : Oper} {k : Nat} (h : (maskOf done o).testBit k = true) : ∃ e ∈ o.after, Region.binds .any e = true ∧ (k = e.on ∨ (done.getD e.on 0).testBit k = true) := by
  have key : ∀ (l : List Edge) (s : Nat), ((l.foldl (fun s e => bif Region.binds .any e then s ||| 2 ^ e.on ||| done.getD e.on 0 else s) s).testBit k = true) → s.testBit k = true ∨ ∃ e ∈ l, Region.binds .any e = true ∧ (k = e.on ∨ (done.getD e.on 0).testBit k = true) := by
    intro l
    induction l with
    | nil => intro s h; exact .inl h
    | cons e l ih =>
      intro s h
      rw [List.foldl_cons] at h
      rcases ih _ h with h | ⟨e', he', hb⟩
      · cases hb : Region.binds .any e with
        | false => rw [hb] at h; exact .inl h
        | true =>
          rw [hb] at h
          simp only [cond_true, Nat.testBit_or, Bool.or_eq_true] at h
          rcases h with (h | h) | h
          · exact .inl h
          · rw [Nat.testBit_two_pow] at h
            exact .inr ⟨e, by simp, hb, .inl (by simpa using (of_decide_eq_true h).symm)⟩
          · exact .inr ⟨e, by simp, hb, .inr h⟩
      · exact .inr ⟨e', by simp [he'], hb⟩
  rcases key _ _ h with h | ⟨e, he, hb⟩
  · simp at h
  · exact ⟨e, Array.mem_toList_iff.1 he, hb⟩
theorem masks_ok {ops : Array Oper} : ∀ (l : List Oper) (d : List Nat), (∀ j, l[j]? = ops[d.length + j]?) →
    (∀ (j m : Nat) (oj : Oper), d[j]? = some m → ops[j]? = some oj → ∀ listed, Closed ops listed → DepsIn listed oj → ∀ k, m.testBit k = true → listed.getD k false = true) →
    (∀ (j m : Nat) (oj : Oper), (masks l d)[j]? = some m → ops[j]? = some oj → ∀ listed, Closed ops listed → DepsIn listed oj → ∀ k, m.testBit k = true → listed.getD k false = true)
  | [], d, _, h => h
  | o :: l, d, hl, h => by
    simp only [masks]
    refine masks_ok l _ (fun j => by have := hl (j + 1); simpa [Nat.add_assoc, Nat.add_comm 1 j] using this) ?_
    intro j m oj hj hoj listed hcl hdep k hk
    rw [List.getElem?_append] at hj
    split at hj
    · exact h j m oj hj hoj listed hcl hdep k hk
    · rename_i hlt
      have e0 : j = d.length := by
        have := (List.getElem?_eq_some_iff.1 hj).1
        simp at this; omega
      subst e0
      simp at hj
      subst hj
      have ho : ops[d.length]? = some o := by have := hl 0; simpa using this.symm
      rw [ho] at hoj
      cases hoj
      obtain ⟨e, he, hb, hk'⟩ := maskOf_bit hk
      have hon := hdep e he hb
      rcases hk' with rfl | hk'
      · exact hon
      · rw [List.getD_eq_getElem?_getD] at hk'
        cases hd : d[e.on]? with
        | none => rw [hd] at hk'; simp at hk'
        | some m' =>
          rw [hd] at hk'
          have hlt' : e.on < d.length := (List.getElem?_eq_some_iff.1 hd).1
          cases hox : ops[e.on]? with
          | none =>
            have h1 := Array.getElem?_eq_none_iff.1 hox
            have h2 := (Array.getElem?_eq_some_iff.1 ho).1
            omega
          | some ox =>
            have hon' : listed.getD e.on true = true := by
              simp only [Array.getD_eq_getD_getElem?] at hon ⊢
              cases hc : listed[e.on]? with
              | none => rfl
              | some b => rw [hc] at hon; simpa using hon
            exact h e.on m' ox hd hox listed hcl (hcl e.on ox hox hon') k hk'
/-- neither waits for the other -/
def inc (ms : List Nat) (i k : Nat) : Bool := !((ms.getD i 0).testBit k) && !((ms.getD k 0).testBit i)
section
variable {P : Program} {ops : Array Oper} {Q : Exit → Act → World → Prop} {S : Nat → World → Prop} {ms : List Nat}
theorem inc_of_ready (hms : ms = masks ops.toList []) {listed : Array Bool} (hcl : Closed ops listed) {i j : Nat} (hi : i ∈ Region.ready .any ops listed) (hj : j ∈ Region.ready .any ops listed) : inc ms j i = true := by
  have base : ∀ (j m : Nat) (oj : Oper), ms[j]? = some m → ops[j]? = some oj → ∀ listed, Closed ops listed → DepsIn listed oj → ∀ k, m.testBit k = true → listed.getD k false = true := by
    rw [hms]
    exact masks_ok ops.toList [] (fun j => by simp) (fun j m oj h => by simp at h)
  have key : ∀ x y, x ∈ Region.ready .any ops listed → y ∈ Region.ready .any ops listed → (ms.getD x 0).testBit y = false := by
    intro x y hx hy
    obtain ⟨hx1, ox, hox, hxd⟩ := mem_ready.1 hx
    obtain ⟨hy1, oy, hoy, hyd⟩ := mem_ready.1 hy
    cases hb : (ms.getD x 0).testBit y with
    | false => rfl
    | true =>
      rw [List.getD_eq_getElem?_getD] at hb
      cases hm : ms[x]? with
      | none => rw [hm] at hb; simp at hb
      | some m =>
        rw [hm] at hb
        have h1 := base x m ox hm hox listed hcl hxd y hb
        exfalso
        simp only [Array.getD_eq_getD_getElem?] at hy1 h1
        cases hc : listed[y]? with
        | none => rw [hc] at h1; simp at h1
        | some b => rw [hc] at h1 hy1; simp at h1 hy1; rw [h1] at hy1; cases hy1
  simp only [inc, key j i hj hi, key i j hi hj, Bool.not_false, Bool.and_self]
theorem closed_set {listed : Array Bool} (hcl : Closed ops listed) {j : Nat} (hj : j ∈ Region.ready .any ops listed) : Closed ops (listed.setIfInBounds j true) := by
  obtain ⟨hj1, oj, hoj, hjd⟩ := mem_ready.1 hj
  intro x ox hox hx e he hb
  refine getD_set_true ?_
  by_cases hxj : j = x
  · subst hxj
    rw [hoj] at hox
    cases hox
    exact hjd e he hb
  · rw [getD_set_ne true hxj] at hx
    exact hcl x ox hox hx e he hb
theorem closed_none : Closed ops (Array.replicate ops.size false) := by
  intro x ox hox hx e he hb
  have := (Array.getElem?_eq_some_iff.1 hox).1
  simp [Array.getD_eq_getD_getElem?, this] at hx
/-- no 'defer' among them -/
def noDefer (ops : Array Oper) : Bool := ops.all fun o => match o.op with | .defer _ => false | _ => true
theorem noDefer_spec (h : noDefer ops = true) (j : Nat) (o : Oper) (c : Call) (ho : ops[j]? = some o) : o.op ≠ .defer c := by
  intro hc
  have := Array.all_eq_true'.1 h o (Array.mem_of_getElem? ho)
  rw [hc] at this
  cases this
variable {ro : Option Nat} {m : Nat}
theorem yields_wpOpIn {S : World → Prop} {i : Nat} {o : Oper} {v : Value} {a : Act} (hnd : ∀ c, o.op ≠ .defer c) (hi : ops[i]? = some o) (hy : YieldsIf P ops S o v a)
    {K : Act → World → Prop} {w : World} (hS : S w) (h : K (a.put o.dst v) w) : wpOpIn (FW ro) m P ops Q i K a w := by
  unfold Go.wpOpIn
  simp only [hi]
  rcases hy with ⟨hw, hv⟩ | ⟨hw, rfl⟩
  · simp only [hw, if_true]
    refine ⟨fun _ _ => trivial, ?_⟩
    rw [semAt_eq hnd, hv w hS]
    exact h
  · simp only [hw, Bool.false_eq_true, if_false]
    exact ⟨fun _ _ => trivial, h⟩
theorem wpOpIn_putIf {S : World → Prop} {j : Nat} {oi oj : Oper} {v : Value} (hnd : ∀ c, oj.op ≠ .defer c) (hj : ops[j]? = some oj) (hap : oi.apart ops oj = true)
    (hsi : ∀ cs b, oi.op ≠ .select cs b) (hsj : ∀ cs b, oj.op ≠ .select cs b)
    (hQ : ∀ c a w, Q (.panic c) (a.put oi.dst v) w → Q (.panic c) a w) {K : Act → World → Prop} {a : Act} {w : World}
    (hy : YieldsIf P ops S oi v a) (h : wpOpIn (FW ro) m P ops Q j K (a.put oi.dst v) w) :
    wpOpIn (FW ro) m P ops Q j (fun a' w' => YieldsIf P ops S oi v a' ∧ K (a'.put oi.dst v) w') a w := by
  obtain ⟨h1, h2, h3⟩ := Oper.apart_spec hap
  have keep : ∀ (a : Act), YieldsIf P ops S oi v a → ∀ u, YieldsIf P ops S oi v (a.put oj.dst u) := fun a hy u =>
    hy.of_same (execOp_put oi hsi a oj.dst u h3) (wanted_put oi a oj.dst u h3)
  unfold Go.wpOpIn at *
  simp only [hj] at *
  rw [wanted_put oj a oi.dst v h1] at h
  split
  · rename_i hw
    simp only [hw, if_true] at h
    refine ⟨fun _ _ => trivial, ?_⟩
    have h := h.2
    rw [semAt_eq hnd, execOp_put oj hsj a oi.dst v h1] at h
    rw [semAt_eq hnd]
    generalize (execOp a.eval oj).run P w = r at *
    cases r with
    | ok x w' =>
      cases x <;> simp only [Oper.uponIn] at h ⊢
      case value u => exact ⟨keep a hy u, by rw [← Act.put_comm a v u h2]; exact h⟩
      case skip => exact ⟨keep a hy _, by rw [← Act.put_comm a v undef h2]; exact h⟩
      case defer d =>
        have hyd : YieldsIf P ops S oi v { a with defers := d :: a.defers } := hy.of_same rfl rfl
        refine ⟨keep _ hyd _, ?_⟩
        rw [← Act.put_comm _ v undef h2, ← Act.put_defers]
        exact h
      case enter f args =>
        refine ⟨h.1, CallsIn.mono h.2 fun e w'' he => ?_⟩
        cases e with
        | returned u => exact ⟨keep a hy u, by rw [← Act.put_comm a v u h2]; exact he⟩
        | panicked c => exact hQ _ _ _ he
        | outgrown => exact he
      case row row args => exact ⟨h.1, RowsIn.mono h.2 fun u w'' he => ⟨keep a hy u, by rw [← Act.put_comm a v u h2]; exact he⟩⟩
      case round l f tmps assign body =>
        refine ⟨h.1, RoundIn.mono h.2 fun e w'' he => ?_⟩
        cases e with
        | returned u => exact ⟨keep a hy u, by rw [← Act.put_comm a v u h2]; exact he⟩
        | panicked c => exact hQ _ _ _ he
        | outgrown => exact he
    | halt x w' =>
      cases x <;> simp only [Oper.uponIn] at h ⊢
      case panic u => exact hQ _ _ _ h
  · rename_i hw
    simp only [hw] at h
    exact ⟨fun _ _ => trivial, keep a hy _, by rw [← Act.put_comm a v undef h2]; exact h.2⟩
/-- whatever order is picked from here on; behind each operation what those that wait not for it, nor it for them, have loaded is as it was -/
def wpAnyK (ro : Option Nat) (m : Nat) (P : Program) (ops : Array Oper) (Q : Exit → Act → World → Prop) (S : Nat → World → Prop) (ms : List Nat) : Nat → Array Bool → Act → World → Prop
  | 0, listed, a, w => Region.ready .any ops listed = [] ∧ Q .normal a w
  | fuel + 1, listed, a, w =>
    (Region.ready .any ops listed = [] → Q .normal a w) ∧
    ∀ i ∈ Region.ready .any ops listed, wpOpIn (FW ro) m P ops Q i (fun a' w' => (∀ k, inc ms i k = true → S k w → S k w') ∧ wpAnyK ro m P ops Q S ms fuel (listed.setIfInBounds i true) a' w') a w
theorem wpAnyIn_of_K : ∀ (fuel : Nat) (listed : Array Bool) (a : Act) (w : World), wpAnyK ro m P ops Q S ms fuel listed a w → wpAnyIn (FW ro) m P .any ops Q fuel listed a w
  | 0, _, _, _, h => h
  | fuel + 1, _, _, _, h => ⟨h.1, fun i hi => wpOpIn_mono (fun a' w' h' => wpAnyIn_of_K fuel _ a' w' h'.2) (h.2 i hi)⟩
theorem wpAnyK_done {listed : Array Bool} {a : Act} {w : World} (hr : Region.ready .any ops listed = []) (h : Q .normal a w) : ∀ fuel, wpAnyK ro m P ops Q S ms fuel listed a w
  | 0 => ⟨hr, h⟩
  | _ + 1 => ⟨fun _ => h, by rw [hr]; simp⟩
theorem wpAnyK_first (hms : ms = masks ops.toList []) {i : Nat} {oi : Oper} {v : Value} {S' : World → Prop} (hi : ops[i]? = some oi) (hsel : ∀ (j : Nat) (o : Oper) cs b, ops[j]? = some o → o.op ≠ .select cs b) (hnd : ∀ (j : Nat) (o : Oper) c, ops[j]? = some o → o.op ≠ .defer c)
    (hQ : ∀ c a w, Q (.panic c) (a.put oi.dst v) w → Q (.panic c) a w) (hS' : ∀ j w w', (∀ k, inc ms j k = true → S k w → S k w') → inc ms j i = true → S' w → S' w') :
    ∀ (fuel : Nat) (listed : Array Bool) (a : Act) (w : World), Closed ops listed →
      (∀ j oj, ops[j]? = some oj → j ≠ i → listed.getD j true = false → (∀ e ∈ oj.after, Region.binds .any e = true → e.on ≠ i) → oi.apart ops oj = true) →
      i ∈ Region.ready .any ops listed → YieldsIf P ops S' oi v a → S' w →
      wpAnyK ro m P ops Q S ms fuel (listed.setIfInBounds i true) (a.put oi.dst v) w → wpAnyK ro m P ops Q S ms (fuel + 1) listed a w := by
  intro fuel
  induction fuel with
  | zero =>
    intro listed a w _ _ hr hy hS H
    refine ⟨fun h => (by rw [h] at hr; cases hr), fun j hj => ?_⟩
    by_cases hji : j = i
    · subst hji; exact yields_wpOpIn (fun c => hnd j oi c hi) hi hy hS ⟨fun _ _ h => h, H⟩
    · have := ready_mono hj hji
      rw [H.1] at this
      cases this
  | succ fuel ih =>
    intro listed a w hcl hfree hr hy hS H
    refine ⟨fun h => (by rw [h] at hr; cases hr), fun j hj => ?_⟩
    by_cases hji : j = i
    · subst hji; exact yields_wpOpIn (fun c => hnd j oi c hi) hi hy hS ⟨fun _ _ h => h, H⟩
    · have h1 := H.2 j (ready_mono hj hji)
      have hinc := inc_of_ready hms hcl hr hj
      obtain ⟨hjun, oj, hoj, hall⟩ := mem_ready.1 hj
      have hnot : ∀ e ∈ oj.after, Region.binds .any e = true → e.on ≠ i := fun e he hb heq => by
        have h1 := hall e he hb
        have h0 := (mem_ready.1 hr).1
        rw [heq] at h1
        rcases Nat.lt_or_ge i listed.size with h' | h'
        · simp [h'] at h0 h1; rw [h0] at h1; cases h1
        · simp [Array.getElem?_eq_none h'] at h1
      have h2 := wpOpIn_putIf (fun c => hnd j oj c hoj) hoj (hfree j oj hoj hji hjun hnot) (fun cs b => hsel i oi cs b hi) (fun cs b => hsel j oj cs b hoj) hQ hy h1
      have hfree' : ∀ k ok, ops[k]? = some ok → k ≠ i → (listed.setIfInBounds j true).getD k true = false →
          (∀ e ∈ ok.after, Region.binds .any e = true → e.on ≠ i) → oi.apart ops ok = true := fun k ok hk hki hun hno => by
        refine hfree k ok hk hki ?_ hno
        by_cases hjk : j = k
        · subst hjk; exact hjun
        · rw [getD_set_ne true hjk] at hun; exact hun
      refine wpOpIn_mono (fun a' w' h3 => ⟨h3.2.1, ih (listed.setIfInBounds j true) a' w' (closed_set hcl hj) hfree' (ready_mono hr (Ne.symm hji)) h3.1 (hS' j w w' h3.2.1 hinc hS) ?_⟩) h2
      rw [Array.setIfInBounds_comm _ _ hji]
      exact h3.2.2
end
end
end Cx
end Go.Proofs.YtboondbognbnnaaGreatDoor
