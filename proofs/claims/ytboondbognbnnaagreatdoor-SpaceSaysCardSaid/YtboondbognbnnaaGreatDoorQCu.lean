/- The executor's oracle for slices.Sorted at the keys of a map whose entries are known. -/
import Derived.Test.YtboondbognbnnaaGreatDoorQCt
set_option linter.unusedVariables false
set_option linter.unusedSimpArgs false
set_option linter.unusedVariables false
set_option linter.unusedSimpArgs false
namespace Go.Proofs.YtboondbognbnnaaGreatDoor
namespace Cx
noncomputable section
open Go.RowKit Go.WideElems Go.MapKept
/-- stamps that rise -/
def bornOk (clock : Nat) : Nat → List (Value × AV × Nat) → Bool
  | _, [] => true
  | lo, x :: l => Nat.ble lo x.2.2 && Nat.blt x.2.2 clock && bornOk clock (x.2.2 + 1) l
theorem bornOk_ok {clock : Nat} : ∀ {l : List (Value × AV × Nat)} {lo : Nat}, bornOk clock lo l = true → (∀ x ∈ l, lo ≤ x.2.2 ∧ x.2.2 < clock) ∧ (l.map fun x => x.2.2).Nodup
  | [], _, _ => ⟨(fun _ h => by cases h), List.nodup_nil⟩
  | x :: l, lo, h => by
    simp only [bornOk, Bool.and_eq_true, Nat.ble_eq, Nat.blt_eq] at h
    obtain ⟨h1, h2⟩ := bornOk_ok h.2
    refine ⟨fun y hy => ?_, ?_⟩
    · rcases List.mem_cons.1 hy with rfl | hy
      · exact h.1
      · have := h1 y hy; omega
    · rw [List.map_cons, List.nodup_cons]
      refine ⟨fun hm => ?_, h2⟩
      obtain ⟨y, hy, e⟩ := List.mem_map.1 hm
      have := (h1 y hy).1; omega
def keysAre : List (Value × AV × Nat) → List (List UInt8) → Bool
  | [], [] => true
  | (.string s, _, _) :: l, k :: ks => decide (s = ⟨k.toArray⟩) && keysAre l ks
  | _, _ => false
theorem keysAre_ok : ∀ {l : List (Value × AV × Nat)} {ks : List (List UInt8)}, keysAre l ks = true → l.map (·.1) = ks.map encStr
  | [], [], _ => rfl
  | x :: l, [], h => by obtain ⟨a, b, c⟩ := x; cases a <;> simp [keysAre] at h
  | [], k :: ks, h => by simp [keysAre] at h
  | (a, b, c) :: l, k :: ks, h => by
    cases a <;> simp only [keysAre, Bool.false_eq_true] at h
    rw [Bool.and_eq_true, decide_eq_true_iff] at h
    rw [List.map_cons, List.map_cons, keysAre_ok h.2, h.1]
    first | done | rfl
/-- slices.Sorted at maps.Keys of a map with just these keys, laid in their order -/
def sortO (kS kK : Nat) (ks : List (List UInt8)) : CallF := fun f args H n => match args with
  | [.fn (.func g) [] [.ptr p 0]] => bif f.beq kS && g.beq kK && Nat.blt (n + 1) 1048576 then (match hv H p with
    | some (.cells (.mp m :: _) _ _) => match hv H m with
      | some (.map es clock) => bif bornOk clock 0 es && keysAre es ks then some (.slc n 0 0 0 ks.length none, Tr.set 20 H n (some (.cells (ks.map fun k => .lit (encStr k)) 1 (9, false))), n + 1) else none
      | _ => none
    | _ => none) else none
  | _ => none
theorem fit_of {ρ : Env} {es : List (Value × AV × Nat)} {clock : Nat} {ks : List (List UInt8)} (h1 : bornOk clock 0 es = true) (h2 : keysAre es ks = true) (hn : ks.Nodup) (hl : ks.length ≤ 1000) (hk : ∀ k ∈ ks, k.length ≤ 1000) :
    Go.WideElems.Fit Tryz.prog 9 RV (⟨es.map (toE ρ)⟩ : Array MapEntry) clock ∧ (strKeys (.map ((es.map (toE ρ)).map (rg Tryz.prog 9 RV) |>.foldr DataW.insert []))).Perm ks ∧ Maps.size (.map ((es.map (toE ρ)).map (rg Tryz.prog 9 RV) |>.foldr DataW.insert []) : DataW Value) = ks.length := by
  have hks := keysAre_ok h2
  obtain ⟨b1, b2⟩ := bornOk_ok h1
  have hlen : es.length = ks.length := by have := congrArg List.length hks; simpa using this
  have hm : 1000 ≤ maxLen := by unfold maxLen; decide
  have hrd : ∀ x ∈ es.map (toE ρ), ∃ k ∈ ks, x.key = encStr k ∧ rd Tryz.prog 9 RV x = some (.string k, .held x.val) := by
    intro x hx
    obtain ⟨y, hy, rfl⟩ := List.mem_map.1 hx
    have : y.1 ∈ ks.map encStr := hks ▸ List.mem_map.2 ⟨y, hy, rfl⟩
    obtain ⟨k, hk', e⟩ := List.mem_map.1 this
    refine ⟨k, hk', e.symm, ?_⟩
    have hkey : Go.keyOf Tryz.prog 9 (toE ρ y).key = some (.string k) := by
      show Go.keyOf _ _ y.1 = _
      rw [← e]
      have := hk k hk'
      have hsz : (⟨k.toArray⟩ : ByteArray).size = k.length := rfl
      simp only [Go.keyOf, Tryz.underlying9, mapKey, encStr]
      simp
      omega
    unfold rd
    rw [hkey]
    rfl
  have hmap : (es.map (toE ρ)).map (fun x => (rg Tryz.prog 9 RV x).1) = ks.map fun k => Lit.string k := by
    have e1 : (es.map (toE ρ)).map (fun x => (rg Tryz.prog 9 RV x).1) = (es.map (toE ρ)).map (fun x => Lit.string (match x.key with | .string s => s.data.toList | _ => [])) := by
      refine List.map_congr_left fun x hx => ?_
      obtain ⟨k, _, e, hr⟩ := hrd x hx
      rw [rg_of hr, e]
      first | done | simp [encStr]
    rw [e1, List.map_map]
    have e2 : (es.map ((fun x : MapEntry => Lit.string (match x.key with | .string s => s.data.toList | _ => [])) ∘ toE ρ)) = (es.map (·.1)).map (fun v => Lit.string (match v with | .string s => s.data.toList | _ => [])) := by
      rw [List.map_map]; rfl
    rw [e2, hks, List.map_map]
    first | done | exact List.map_congr_left fun k _ => by first | rfl | simp [encStr]
  refine ⟨⟨?_, ?_, ?_⟩, ?_, ?_⟩
  · simp; omega
  · refine ⟨fun x hx => ?_, ?_, ?_⟩
    · obtain ⟨y, hy, rfl⟩ := List.mem_map.1 hx
      exact (b1 y hy).2
    · have : ((es.map (toE ρ)).map fun x => x.born) = es.map fun x => x.2.2 := by rw [List.map_map]; rfl
      show ((es.map (toE ρ)).map fun x => x.born).Nodup
      rw [this]
      exact b2
    · have : ((es.map (toE ρ)).map fun x => x.key) = ks.map encStr := by rw [List.map_map, ← hks]; rfl
      show ((es.map (toE ρ)).map fun x => x.key).Nodup
      rw [this]
      refine List.Pairwise.map _ (fun a b hab e => hab (encStr_inj e)) hn
  · intro x hx
    obtain ⟨k, _, _, hr⟩ := hrd x hx
    exact ⟨_, hr⟩
  · have hp := WideShapes.sorted_perm ((es.map (toE ρ)).map (rg Tryz.prog 9 RV))
    refine (hp.map fun p => strOf p.1).trans ?_
    rw [List.map_map]
    have this : ∀ l : List MapEntry, l.map ((fun p : Lit × DataW Value => strOf p.1) ∘ rg Tryz.prog 9 RV) = (l.map (fun x => (rg Tryz.prog 9 RV x).1)).map strOf := fun l => (List.map_map (g := strOf) (f := fun x => (rg Tryz.prog 9 RV x).1) (l := l)).symm
    have e2 : ∀ l : List (List UInt8), (l.map fun k => Lit.string k).map strOf = l := fun l => by
      induction l with
      | nil => rfl
      | cons a l ih => simp only [List.map_cons, ih]; rfl
    rw [this, hmap, e2]
  · show List.length _ = _
    have hp := (WideShapes.sorted_perm ((es.map (toE ρ)).map (rg Tryz.prog 9 RV))).length_eq
    rw [hp]
    simp [hlen]
theorem sort_ok (G : Nat) {ks : List (List UInt8)} (hs : ks.mergeSort leB = ks) (hn : ks.Nodup) (hl : ks.length ≤ 1000) (hk : ∀ k ∈ ks, k.length ≤ 1000) (h0 : ks ≠ []) :
    CallOk Tryz.prog G (sortO 25 51 ks) := by
  intro f args H n r h w0 out ρ w M hw
  unfold sortO at h
  split at h
  · rename_i g p
    cases hf : (Nat.beq f 25 && Nat.beq g 51 && Nat.blt (n + 1) 1048576) with
    | false => rw [hf] at h; cases h
    | true =>
      rw [hf] at h
      simp only [cond_true] at h
      simp only [Bool.and_eq_true, Nat.blt_eq] at hf
      obtain ⟨⟨e1, e2⟩, hn1⟩ := hf
      have e1 := Nat.eq_of_beq_eq_true e1
      have e2 := Nat.eq_of_beq_eq_true e2
      subst e1 e2
      split at h
      · rename_i m l e x hp
        split at h
        · rename_i es clock hm
          cases hb : (bornOk clock 0 es && keysAre es ks) with
          | false => rw [hb] at h; cases h
          | true =>
            rw [hb] at h
            simp only [cond_true, Option.some.injEq] at h
            subst h
            rw [Bool.and_eq_true] at hb
            obtain ⟨hF, hP, hS⟩ := fit_of (ρ := ρ) hb.1 hb.2 hn hl hk
            have hmo : w.heap[(ρ m).blk]? = some (.map ⟨es.map (toE ρ)⟩ clock) := (M.obj m _ hm).1
            have hown : w.ownsMap Tryz.prog 9 RV (ρ m).blk es.length (.map (((es.map (toE ρ)).map (Go.WideElems.rg Tryz.prog 9 RV)).foldr DataW.insert [])) := ⟨_, clock, hmo, hF, by simp, rfl⟩
            have hc : CellsAt ρ w p 0 [.mp m] := M.cellsAt hp 0 [.mp m] (fun i v hi => by cases i with
              | zero => simpa using hi
              | succ i => simp at hi)
            have hc0 := hc 0 (.mp m) rfl
            have hmax : 1000 ≤ maxLen := by unfold maxLen; decide
            have hbase : (ρ p).base = 0 := by obtain ⟨⟨_, _, _, _, _, _, _, hb0, _⟩, _⟩ := M.obj p _ hp; exact hb0
            rw [hbase] at hc0
            refine (sorted_at (ρ p).blk (ρ m).blk es.length _ w (M.blk p _ hp) hc0 hown (by rw [hS]; omega) (by rw [hS]; omega)).mono ?_ |> fun h => by
              have ea : (⟨[AV.fn (.func 51) [] [.ptr p 0]].map (AV.conc ρ)⟩ : Array Value) = #[.func (.func 51) #[] #[.pointer (some ⟨(ρ p).blk, 0, none⟩)]] := by
                simp [AV.conc, AV.concs, hbase]
              rw [ea]
              exact h
            rintro e w' ⟨v, ss, rfl, hss, hrow, hnil, hbel⟩
            have hsort : ss.mergeSort leB = ks := (mergeSort_of_perm (hss.trans hP)).trans hs
            have hslen : ss.length = ks.length := (hss.trans hP).length_eq
            rw [hsort, hslen] at hrow
            obtain ⟨_, hrow⟩ := hrow
            rcases hrow with ⟨rfl, hz⟩ | ⟨g', cap, cur, rfl, hge, hg, hle, hcm, hcur, htake⟩
            · exact absurd (List.eq_nil_of_length_eq_zero hz) h0
            · have hglt := (Array.getElem?_eq_some_iff.1 hg).1
              obtain ⟨M', hρ⟩ := M.made hbel (sp := ⟨g', 0, cap⟩) (ao := .cells (ks.map fun k => .lit (encStr k)) 1 (9, false)) hge hglt
                (by
                  refine ⟨cur, 9, by rw [upd_same]; exact hg, fun i v hi => ?_, by rw [upd_same]; simpa using hle, by rw [upd_same]; simp only [Nat.zero_add]; omega, rfl, by rw [upd_same], fun h => by cases h⟩
                  rw [upd_same]
                  have hi' : (ks.map encStr)[i]? = some (v.conc (upd ρ n ⟨g', 0, cap⟩)) := by
                    rw [List.getElem?_map] at hi ⊢
                    obtain ⟨k, hk', rfl⟩ := Option.map_eq_some_iff.1 hi
                    rw [hk']; rfl
                  rw [← htake, List.getElem?_take] at hi'
                  split at hi'
                  · simpa using hi'
                  · cases hi')
                ((wfs_iff _ _ _).2 fun v hv => by obtain ⟨k, _, rfl⟩ := List.mem_map.1 hv; simp only [AV.wf])
              refine ⟨_, ?_, ?_, hρ, ?_, Nat.le_succ n⟩
              · simp [AV.conc, capOf, upd_same]
              · show Mem w0 out G _ (hv (Tr.set 20 H n _)) (n + 1) w'
                rw [hv_set H n _ hn1]
                exact M'
              · simp only [AV.wf, upd_same]
                exact ⟨Nat.lt_succ_self n, fun _ => by omega, fun k hk => by cases hk⟩
        · cases h
      · cases h
  · cases h
end
end Cx
end Go.Proofs.YtboondbognbnnaaGreatDoor
