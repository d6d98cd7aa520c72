/- A verified executor of closed calls, part 5: memory: what is read, what is made, what is written. -/
import Derived.Test.YtcpkihikmpkdnaaGreatDoorCd
import Derived.Laws.CopyRow
import Derived.Deep.AppendSrc
import Derived.MapKept
set_option linter.unusedVariables false
set_option linter.unusedSimpArgs false
namespace Go.Proofs.YtcpkihikmpkdnaaGreatDoor
namespace Cx
noncomputable section
abbrev Hv := Nat → Option AO
def upd {β : Type} (f : Nat → β) (k : Nat) (x : β) : Nat → β := fun b => if b = k then x else f b
theorem upd_same {β : Type} (f : Nat → β) (k : Nat) (x : β) : upd f k x k = x := by simp [upd]
theorem upd_other {β : Type} (f : Nat → β) {k b : Nat} (x : β) (h : b ≠ k) : upd f k x b = f b := by simp [upd, h]
section
variable {P : Program} {w0 : World} {out : Nat → Prop} {G : Nat} {ρ : Env} {h : Hv} {n : Nat} {w : World}
theorem objOk_ext {ρ' : Env} {w' : World} {b : Nat} {o : AO} (hb : b < n) (hρ : ∀ b, b < n → ρ' b = ρ b) (hw : AO.wf ρ n o) (hh : w'.heap[(ρ b).blk]? = w.heap[(ρ b).blk]?) (H : ObjOk ρ w b o) : ObjOk ρ' w' b o := by
  cases o with
  | cells l e x =>
    obtain ⟨c, t, h1, h2, h3, h4, h5⟩ := H
    refine ⟨c, t, ?_, fun i v hv => ?_, ?_, ?_, by rw [hρ b hb]; exact h5⟩
    · rw [hρ b hb, hh]; exact h1
    · rw [hρ b hb, h2 i v hv, conc_ext hρ v ((wfs_iff ρ n l).1 hw v (List.mem_of_getElem? hv))]
    · rw [hρ b hb]; exact h3
    · rw [hρ b hb]; exact h4
  | map es clock =>
    simp only [ObjOk] at *
    have e : (es.map fun x => ({ key := x.1, val := x.2.1.conc ρ', born := x.2.2 } : MapEntry)) = es.map fun x => ({ key := x.1, val := x.2.1.conc ρ, born := x.2.2 } : MapEntry) :=
      List.map_congr_left fun x hx => by rw [conc_ext hρ x.2.1 (hw x hx)]
    rw [hρ b hb, hh, H, e]
  | loop busy sz T ps assign body =>
    obtain ⟨fn, tmps, d, h1, h2, h3⟩ := H
    exact ⟨fn, tmps, d, by rw [hρ b hb, hh]; exact h1, h2, fun t => by rw [h3 t, conc_ext hρ _ (hw t)]⟩
  | dfr =>
    simp only [ObjOk] at *
    rw [hρ b hb, hh, H]
theorem aoWf_ext {ρ' : Env} {m : Nat} {o : AO} (hρ : ∀ b, b < n → ρ' b = ρ b) (hm : n ≤ m) (hw : AO.wf ρ n o) : AO.wf ρ' m o := by
  cases o with
  | cells l e x => exact wfs_ext hρ hm l hw
  | map es clock => exact fun x hx => wf_ext hρ hm x.2.1 (hw x hx)
  | loop busy sz T ps assign body => exact fun t => wf_ext hρ hm _ (hw t)
  | dfr => trivial
theorem Mem.new (M : Mem w0 out G ρ h n w) {sp : Spot} {o' : Obj} {ao : AO} {w' : World} (hs : sp.blk = w.heap.size) (hw' : w'.heap = w.heap.push o') (hok : ObjOk (upd ρ n sp) w' n ao) (hwf : AO.wf (upd ρ n sp) (n + 1) ao) (he : SameEnv w w' := by exact ⟨rfl, rfl, rfl⟩) :
    Mem w0 out G (upd ρ n sp) (upd h n (some ao)) (n + 1) w' ∧ (∀ b, b < n → upd ρ n sp b = ρ b) := by
  have hρ : ∀ b, b < n → upd ρ n sp b = ρ b := fun b hb => upd_other _ _ (by omega)
  have hold : ∀ x, x < w.heap.size → w'.heap[x]? = w.heap[x]? := fun x hx => by rw [hw', Array.getElem?_push]; simp [show ¬ x = w.heap.size from by omega]
  have hsz : w'.heap.size = w.heap.size + 1 := by rw [hw']; simp
  refine ⟨⟨?_, ?_, ?_, ?_, ?_, ?_, ?_, by have := M.globs; omega, M.env.trans he⟩, hρ⟩
  · intro b o hb
    by_cases e : b = n
    · subst e
      rw [upd_same] at hb
      cases hb
      exact ⟨hok, hwf⟩
    · rw [upd_other _ _ e] at hb
      exact ⟨objOk_ext (M.lt b o hb) hρ (M.obj b o hb).2 (hold _ (M.blk b o hb)) (M.obj b o hb).1, aoWf_ext hρ (by omega) (M.obj b o hb).2⟩
  · intro b o hb
    by_cases e : b = n
    · omega
    · rw [upd_other _ _ e] at hb
      have := M.lt b o hb; omega
  · intro b o hb
    by_cases e : b = n
    · subst e; rw [upd_same]; omega
    · rw [upd_other _ _ e] at hb
      rw [hρ b (M.lt b o hb)]
      have := M.blk b o hb; omega
  · intro b b' o o2 hb hb' e
    by_cases e1 : b = n
    · by_cases e2 : b' = n
      · omega
      · rw [upd_other _ _ e2] at hb'
        subst e1
        rw [upd_same, hρ b' (M.lt b' o2 hb')] at e
        have := M.blk b' o2 hb'; omega
    · rw [upd_other _ _ e1] at hb
      by_cases e2 : b' = n
      · subst e2
        rw [upd_same, hρ b (M.lt b o hb)] at e
        have := M.blk b o hb; omega
      · rw [upd_other _ _ e2] at hb'
        rw [hρ b (M.lt b o hb), hρ b' (M.lt b' o2 hb')] at e
        exact M.inj b b' o o2 hb hb' e
  · intro c hc
    obtain ⟨h1, h2⟩ := M.outs c hc
    exact ⟨by omega, by rw [hold c h1]; exact h2⟩
  · intro b o hb
    by_cases e : b = n
    · subst e
      rw [upd_same]
      intro hc
      have := (M.outs _ hc).1; omega
    · rw [upd_other _ _ e] at hb
      rw [hρ b (M.lt b o hb)]
      exact M.apart b o hb
  · intro g hg
    have := M.globs
    rw [hρ g (by omega)]
    exact M.glob g hg
/-- a row that is written, or a map -/
theorem Mem.put (M : Mem w0 out G ρ h n w) {b : Nat} {ao ao' : AO} (hb : h b = some ao) {w' : World} (hok : ObjOk ρ w' b ao') (hwf : AO.wf ρ n ao') (ho : ∀ x, x ≠ (ρ b).blk → w'.heap[x]? = w.heap[x]?) (hsz : w'.heap.size = w.heap.size) (he : SameEnv w w' := by exact ⟨rfl, rfl, rfl⟩) :
    Mem w0 out G ρ (upd h b (some ao')) n w' := by
  refine ⟨?_, ?_, ?_, ?_, ?_, ?_, M.glob, M.globs, M.env.trans he⟩
  · intro c o hc
    by_cases e : c = b
    · subst e
      rw [upd_same] at hc
      cases hc
      exact ⟨hok, hwf⟩
    · rw [upd_other _ _ e] at hc
      refine ⟨objOk_ext (M.lt c o hc) (fun _ _ => rfl) (M.obj c o hc).2 (ho _ fun e' => e (M.inj c b o ao hc hb e')) (M.obj c o hc).1, (M.obj c o hc).2⟩
  · intro c o hc
    by_cases e : c = b
    · subst e; exact M.lt c ao hb
    · rw [upd_other _ _ e] at hc; exact M.lt c o hc
  · intro c o hc
    rw [hsz]
    by_cases e : c = b
    · subst e; exact M.blk c ao hb
    · rw [upd_other _ _ e] at hc; exact M.blk c o hc
  · intro c c' o o' hc hc' e
    have get : ∀ x y, upd h b (some ao') x = some y → ∃ z, h x = some z := fun x y hx => by
      by_cases e : x = b
      · subst e; exact ⟨_, hb⟩
      · rw [upd_other _ _ e] at hx; exact ⟨_, hx⟩
    obtain ⟨z, hz⟩ := get c o hc
    obtain ⟨z', hz'⟩ := get c' o' hc'
    exact M.inj c c' z z' hz hz' e
  · intro c hc
    obtain ⟨h1, h2⟩ := M.outs c hc
    refine ⟨by omega, ?_⟩
    rw [ho c fun e => M.apart b ao hb (e ▸ hc)]
    exact h2
  · intro c o hc
    by_cases e : c = b
    · subst e; exact M.apart c ao hb
    · rw [upd_other _ _ e] at hc; exact M.apart c o hc
/-- a name that nobody knows any more -/
theorem Mem.drop (M : Mem w0 out G ρ h n w) (b : Nat) : Mem w0 out G ρ (upd h b none) n w := by
  have get : ∀ {x y}, upd h b none x = some y → h x = some y := fun {x y} hx => by
    by_cases e : x = b
    · subst e; rw [upd_same] at hx; cases hx
    · rwa [upd_other _ _ e] at hx
  exact ⟨fun c o hc => M.obj c o (get hc), fun c o hc => M.lt c o (get hc), fun c o hc => M.blk c o (get hc), fun c c' o o' hc hc' => M.inj c c' o o' (get hc) (get hc'), M.outs, fun c o hc => M.apart c o (get hc), M.glob, M.globs, M.env⟩
theorem Mem.same_heap (M : Mem w0 out G ρ h n w) {w' : World} (hh : w'.heap = w.heap) (he : SameEnv w w' := by exact ⟨rfl, rfl, rfl⟩) : Mem w0 out G ρ h n w' :=
  ⟨fun b o hb => ⟨objOk_ext (M.lt b o hb) (fun _ _ => rfl) (M.obj b o hb).2 (by rw [hh]) (M.obj b o hb).1, (M.obj b o hb).2⟩, M.lt, fun b o hb => by rw [hh]; exact M.blk b o hb, M.inj, fun c hc => by rw [hh]; exact M.outs c hc, M.apart, M.glob, M.globs, M.env.trans he⟩
/-! ### loads -/
def CellsAt (ρ : Env) (w : World) (b o : Nat) (vs : List AV) : Prop := ∀ (i : Nat) (v : AV), vs[i]? = some v → w.cell? ⟨(ρ b).blk, (ρ b).base + (o + i), none⟩ = some (v.conc ρ)
def AV.single : AV → Bool
  | .lit v => v.oneCell'
  | .agg _ => false
  | .tup _ => false
  | .mrk _ => false
  | _ => true
theorem single_one {v : AV} (h : v.single = true) : (v.conc ρ).oneCell' = true := by
  cases v <;> first | exact h | rfl | (simp [AV.single] at h)
/-- what is loaded: where, and the value -/
def xLoad (P : Program) (h : Hv) (t : TypeId) (x : AV) : Option AV :=
  match x with
  | .ptr b o => match h b with
    | some (.cells l _ _) => match aAgg P t with
      | some true => match aSize P t with
        | some k => (takeN k (l.drop o)).map .agg
        | none => none
      | some false => match l[o]? with
        | some v => bif v.single then some v else none
        | none => none
      | none => none
    | _ => none
  | _ => none
theorem Mem.cellsAt (M : Mem w0 out G ρ h n w) {b e : Nat} {l : List AV} {x : TypeId × Bool} (hb : h b = some (.cells l e x)) (o : Nat) (vs : List AV) (hv : ∀ (i : Nat) (v : AV), vs[i]? = some v → l[o + i]? = some v) : CellsAt ρ w b o vs := by
  obtain ⟨⟨c, t, h1, h2, _, _, _⟩, _⟩ := M.obj b _ hb
  intro i v hi
  have := h2 _ _ (hv i v hi)
  simp [World.cell?, h1, this]
theorem xLoad_ok {t : TypeId} {x v : AV} (hl : xLoad P h t x = some v) : ∃ b o, x = .ptr b o ∧ (∀ w', CellsAt ρ w' b o v.cells → (Instr.loadAt t (x.conc ρ)).run P w' = .ok (v.conc ρ) w') ∧
    (∀ w', Mem w0 out G ρ h n w' → CellsAt ρ w' b o v.cells ∧ v.wf ρ n) := by
  unfold xLoad at hl
  split at hl
  · rename_i b o
    refine ⟨b, o, rfl, ?_⟩
    split at hl
    · rename_i l e x hb
      split at hl
      · rename_i ha
        split at hl
        · rename_i k hk
          obtain ⟨r, hr, rfl⟩ := Option.map_eq_some_iff.1 hl
          obtain ⟨h1, rfl⟩ := takeN_eq hr
          refine ⟨fun w' hc => ?_, fun w' M => ⟨M.cellsAt hb o _ fun i v hv => ?_, ?_⟩⟩
          · have hlen : ((l.drop o).take k).length = k := by simp at h1 ⊢; omega
            have hrun := run_loadCells_list (P := P) w' ⟨(ρ b).blk, (ρ b).base + o, none⟩ (((l.drop o).take k).map (AV.conc ρ)) (fun j v hv => by
              rw [add_off, Nat.add_assoc]
              rw [List.getElem?_map] at hv
              obtain ⟨u, hu, rfl⟩ := Option.map_eq_some_iff.1 hv
              exact hc j u hu)
            rw [List.length_map, hlen] at hrun
            simp only [Instr.loadAt, AV.conc, Instr.sureAddr, Sem.run_bind, rp, Result.andThen_ok, loadVar, run_agg ha, if_true, run_size hk, hrun, concs_map]
          · simp only [AV.cells] at hv
            rw [List.getElem?_take] at hv
            split at hv
            · rwa [List.getElem?_drop] at hv
            · cases hv
          · have := (M.obj b _ hb).2
            exact (wfs_iff ρ n _).2 fun v hv => (wfs_iff ρ n l).1 this v (List.mem_of_mem_drop (List.mem_of_mem_take hv))
        · cases hl
      · rename_i ha
        split at hl
        · rename_i v' hv'
          cases hs : v'.single with
          | false => rw [hs] at hl; cases hl
          | true =>
            rw [hs] at hl
            cases hl
            have hcell : v.cells = [v] := by cases v <;> first | rfl | (simp [AV.single] at hs)
            refine ⟨fun w' hc => ?_, fun w' M => ⟨M.cellsAt hb o _ fun i v hv => ?_, ?_⟩⟩
            · have := hc 0 v (by rw [hcell]; rfl)
              simp only [Instr.loadAt, AV.conc, Instr.sureAddr, Sem.run_bind, rp, Result.andThen_ok, loadVar, run_agg ha, Bool.false_eq_true, if_false]
              simp only [load, Sem.run]
              rw [Nat.add_zero] at this
              rw [this]
            · rw [hcell] at hv
              cases i with
              | zero => simp at hv; subst hv; exact hv'
              | succ i => simp at hv
            · exact (wfs_iff ρ n l).1 (M.obj b _ hb).2 v (List.mem_of_getElem? hv')
        · cases hl
      · cases hl
    · cases hl
  · cases hl
end
end
end Cx
end Go.Proofs.YtcpkihikmpkdnaaGreatDoor
