/- A verified executor of closed calls, part 13: what a lane does. -/
import Derived.Test.YtcpkihikmpkdnaaGreatDoorCm
set_option linter.unusedVariables false
set_option linter.unusedSimpArgs false
namespace Go.Proofs.YtcpkihikmpkdnaaGreatDoor
namespace Cx
noncomputable section
/-! ### loads of a region -/
abbrev Ld := Nat × Nat × Nat × List AV
def ldKeep (ms : List Nat) (i : Nat) (h : Hv) : List Ld → Bool
  | [] => true
  | (k, b, o, vs) :: l => (bif inc ms i k then cellsSame h b o vs else true) && ldKeep ms i h l
theorem ldKeep_ok {ms : List Nat} {i : Nat} {h : Hv} : ∀ {l : List Ld}, ldKeep ms i h l = true → ∀ x ∈ l, inc ms i x.1 = true → cellsSame h x.2.1 x.2.2.1 x.2.2.2 = true
  | [], _, x, hx, _ => by cases hx
  | (k, b, o, vs) :: l, hk, x, hx, hi => by
    simp only [ldKeep, Bool.and_eq_true] at hk
    rcases List.mem_cons.1 hx with rfl | hx
    · have := hk.1
      rw [hi] at this
      exact this
    · exact ldKeep_ok hk.2 x hx hi
def ldNo (i : Nat) : List Ld → Bool
  | [] => true
  | x :: l => !(x.1.beq i) && ldNo i l
theorem ldNo_ok {i : Nat} : ∀ {l : List Ld}, ldNo i l = true → ∀ x ∈ l, x.1 ≠ i
  | [], _, x, hx => by cases hx
  | y :: l, hk, x, hx => by
    simp only [ldNo, Bool.and_eq_true, Bool.not_eq_true'] at hk
    rcases List.mem_cons.1 hx with rfl | hx
    · intro e
      rw [e, Nat.beq_refl] at hk
      cases hk.1
    · exact ldNo_ok hk.2 x hx
/-- what a load's cells hold -/
def SL (ρ0 : Env) (Lall : List Ld) (k : Nat) (w : World) : Prop := ∀ l ∈ Lall, l.1 = k → CellsAt ρ0 w l.2.1 l.2.2.1 l.2.2.2
theorem cellsAt_ext {ρ ρ' : Env} {n : Nat} {w : World} {b o : Nat} {vs : List AV} (hρ : ∀ b, b < n → ρ' b = ρ b) (hb : b < n) (hw : AV.wfs ρ n vs) : CellsAt ρ w b o vs ↔ CellsAt ρ' w b o vs := by
  have e : ∀ (i : Nat) (v : AV), vs[i]? = some v → v.conc ρ' = v.conc ρ := fun i v hv => conc_ext hρ v ((wfs_iff ρ n _).1 hw v (List.mem_of_getElem? hv))
  constructor
  · intro h i v hv; rw [hρ b hb, e i v hv]; exact h i v hv
  · intro h i v hv; have := h i v hv; rwa [hρ b hb, e i v hv] at this
theorem cellsAt_grow {ρ : Env} {w w' : World} {b o : Nat} {vs : List AV} (hg : ∀ c, c < w.heap.size → w'.heap[c]? = w.heap[c]?) (h : CellsAt ρ w b o vs) : CellsAt ρ w' b o vs := by
  intro i v hv
  have := h i v hv
  unfold World.cell? at this ⊢
  rcases Nat.lt_or_ge (ρ b).blk w.heap.size with hlt | hge
  · rw [hg _ hlt]; exact this
  · rw [Array.getElem?_eq_none hge] at this; cases this
abbrev Res := Tm × Hp × Nat × List Ld
abbrev Kont := Bool → List Ld → Tm → Hp → Nat → Option Res
/-- a line of operations, then what follows -/
def xOps (P : Program) (C : Cal) (G sz : Nat) (ops : Array Oper) (ms : List Nat) (H0 : Hp) (n0 : Nat) (k : Kont) : List (Nat × Bool) → Kont
  | [], fr, Lp, T, H, n => k fr Lp T H n
  | (i, tk) :: p, fr, Lp, T, H, n => match ops[i]? with
    | none => none
    | some o => match xWanted ops T o with
      | false => match tput T sz o.dst (.lit undef) with
        | some T' => xOps P C G sz ops ms H0 n0 k p fr Lp T' H n
        | none => none
      | true => match tk with
        | true => match loadOf o with
          | some (t, x) => match evA G T x, xLoad P (hv H) t (evA G T x) with
            | .ptr b o', some v => bif Nat.blt b n0 && (fr || cellsSame (hv H0) b o' v.cells) && ldNo i Lp then (match tput T sz o.dst v with
              | some T' => match xOps P C G sz ops ms H0 n0 k p fr ((i, b, o', v.cells) :: Lp) T' H n with
                | some (T2, H2, n2, L) => bif ldNo i L then some (T2, H2, n2, (i, b, o', v.cells) :: L) else none
                | none => none
              | none => none) else none
            | _, _ => none
          | none => match yPure P (evA G T) o with
            | some v => match tput T sz o.dst v with
              | some T' => xOps P C G sz ops ms H0 n0 k p fr Lp T' H n
              | none => none
            | none => none
        | false => match yEff P C (evA G T) H n o with
          | some (v, H', n') => match tput T sz o.dst v with
            | some T' => match xOps P C G sz ops ms H0 n0 k p false Lp T' H' n' with
              | some (T2, H2, n2, L) => bif ldKeep ms i (hv H') (Lp ++ L) then some (T2, H2, n2, L) else none
              | none => none
            | none => none
          | none => none
/-- the same, as facts -/
inductive Run (P : Program) (C : Cal) (G sz : Nat) (ops : Array Oper) (ms : List Nat) (H0 : Hp) (n0 : Nat) (LA : List Ld) (fr1 : Bool) (T1 : Tm) (H1 : Hp) (n1 : Nat) : List (Nat × Bool) → Bool → Tm → Hp → Nat → Prop where
  | nil : Run P C G sz ops ms H0 n0 LA fr1 T1 H1 n1 [] fr1 T1 H1 n1
  | skip {i : Nat} {tk fr : Bool} {o : Oper} {p : List (Nat × Bool)} {T T' : Tm} {H : Hp} {n : Nat} : ops[i]? = some o → xWanted ops T o = false → tput T sz o.dst (.lit undef) = some T' → Run P C G sz ops ms H0 n0 LA fr1 T1 H1 n1 p fr T' H n → Run P C G sz ops ms H0 n0 LA fr1 T1 H1 n1 ((i, tk) :: p) fr T H n
  | load {i : Nat} {fr : Bool} {o : Oper} {p : List (Nat × Bool)} {T T' : Tm} {H : Hp} {n b o' : Nat} {t : TypeId} {x : Operand} {v : AV} : ops[i]? = some o → xWanted ops T o = true → o.op = .load t x → evA G T x = .ptr b o' → xLoad P (hv H) t (evA G T x) = some v → tput T sz o.dst v = some T' →
      b < n0 → (fr = true ∨ cellsSame (hv H0) b o' v.cells = true) → (i, b, o', v.cells) ∈ LA → (∀ l ∈ LA, l.1 = i → l = (i, b, o', v.cells)) → Run P C G sz ops ms H0 n0 LA fr1 T1 H1 n1 p fr T' H n → Run P C G sz ops ms H0 n0 LA fr1 T1 H1 n1 ((i, true) :: p) fr T H n
  | pure {i : Nat} {fr : Bool} {o : Oper} {p : List (Nat × Bool)} {T T' : Tm} {H : Hp} {n : Nat} {v : AV} : ops[i]? = some o → xWanted ops T o = true → xPure P (evA G T) o = some v → tput T sz o.dst v = some T' → Run P C G sz ops ms H0 n0 LA fr1 T1 H1 n1 p fr T' H n → Run P C G sz ops ms H0 n0 LA fr1 T1 H1 n1 ((i, true) :: p) fr T H n
  | eff {i : Nat} {fr : Bool} {o : Oper} {p : List (Nat × Bool)} {T T' : Tm} {H H' : Hp} {n n' : Nat} {v : AV} : ops[i]? = some o → xWanted ops T o = true → xEff P C (evA G T) H n o = some (v, H', n') → tput T sz o.dst v = some T' → (∀ l ∈ LA, inc ms i l.1 = true → cellsSame (hv H') l.2.1 l.2.2.1 l.2.2.2 = true) →
      Run P C G sz ops ms H0 n0 LA fr1 T1 H1 n1 p false T' H' n' → Run P C G sz ops ms H0 n0 LA fr1 T1 H1 n1 ((i, false) :: p) fr T H n
/-- a load's cells lay at the start -/
def LdOk (ρ0 : Env) (n0 : Nat) (l : Ld) : Prop := l.2.1 < n0 ∧ AV.wfs ρ0 n0 l.2.2.2
section
variable {P : Program} {C : Cal} {G sz : Nat} {ops : Array Oper} {ms : List Nat} {H0 : Hp} {n0 : Nat} {ρ0 : Env} {w00 wx : World} {ox : Nat → Prop}
theorem xOps_run (M0 : Mem wx ox G ρ0 (hv H0) n0 w00) {k : Kont} : ∀ {p : List (Nat × Bool)} {fr : Bool} {Lp : List Ld} {T : Tm} {H : Hp} {n : Nat} {T2 : Tm} {H2 : Hp} {n2 : Nat} {L : List Ld}, xOps P C G sz ops ms H0 n0 k p fr Lp T H n = some (T2, H2, n2, L) → (fr = true → H = H0) →
    ∃ fr1 Lp1 T1 H1 n1 L1, k fr1 Lp1 T1 H1 n1 = some (T2, H2, n2, L1) ∧ (fr1 = true → H1 = H0) ∧ (∀ l, l ∈ Lp ∨ l ∈ L ↔ l ∈ Lp1 ∨ l ∈ L1) ∧ (∀ l ∈ L, l ∈ L1 ∨ LdOk ρ0 n0 l) ∧
      ∀ LA : List Ld, (∀ l, l ∈ LA ↔ l ∈ Lp ∨ l ∈ L) → Run P C G sz ops ms H0 n0 LA fr1 T1 H1 n1 p fr T H n
  | [], fr, Lp, T, H, n, T2, H2, n2, L, h, hfr => ⟨fr, Lp, T, H, n, L, h, hfr, fun _ => Iff.rfl, fun _ hl => .inl hl, fun _ _ => .nil⟩
  | (i, tk) :: p, fr, Lp, T, H, n, T2, H2, n2, L, h, hfr => by
    simp only [xOps, yPure_eq, yEff_eq] at h
    split at h
    · cases h
    · rename_i o ho
      cases hw : xWanted ops T o with
      | false =>
        rw [hw] at h
        simp only at h
        split at h
        · rename_i T' ht
          obtain ⟨fr1, Lp1, T1, H1, n1, L1, g1, g2, g3, g4, g5⟩ := xOps_run M0 h hfr
          exact ⟨fr1, Lp1, T1, H1, n1, L1, g1, g2, g3, g4, fun LA hLA => .skip ho hw ht (g5 LA hLA)⟩
        · cases h
      | true =>
        rw [hw] at h
        simp only at h
        cases tk with
        | true =>
          simp only at h
          split at h
          · rename_i t x hop
            have hop := loadOf_some hop
            split at h
            · rename_i b o' v hx hv'
              cases hb : (Nat.blt b n0 && (fr || cellsSame (hv H0) b o' v.cells) && ldNo i Lp) with
              | false => rw [hb] at h; cases h
              | true =>
                rw [hb] at h
                simp only [cond_true] at h
                simp only [Bool.and_eq_true, Nat.blt_eq] at hb
                obtain ⟨⟨hb1, hb2⟩, hb3⟩ := hb
                rw [Bool.or_eq_true] at hb2
                split at h
                · rename_i T' ht
                  split at h
                  · rename_i T3 H3 n3 L' hrec
                    cases hb4 : ldNo i L' with
                    | false => rw [hb4] at h; cases h
                    | true =>
                      rw [hb4] at h
                      simp only [cond_true, Option.some.injEq, Prod.mk.injEq] at h
                      obtain ⟨rfl, rfl, rfl, rfl⟩ := h
                      obtain ⟨fr1, Lp1, T1, H1, n1, L1, g1, g2, g3, g4, g5⟩ := xOps_run M0 hrec hfr
                      have hmem : ∀ l, l ∈ Lp ∨ l ∈ (i, b, o', v.cells) :: L' ↔ l ∈ (i, b, o', v.cells) :: Lp ∨ l ∈ L' := fun l => by
                        simp only [List.mem_cons]
                        constructor
                        · rintro (h | h | h)
                          · exact .inl (.inr h)
                          · exact .inl (.inl h)
                          · exact .inr h
                        · rintro ((h | h) | h)
                          · exact .inr (.inl h)
                          · exact .inl h
                          · exact .inr (.inr h)
                      refine ⟨fr1, Lp1, T1, H1, n1, L1, g1, g2, fun l => (hmem l).trans (g3 l), fun l hl => ?_, fun LA hLA => .load ho hw hop hx hv' ht hb1 hb2 ((hLA _).2 (.inr (by simp))) (fun l hl hli => ?_) (g5 LA fun l => (hLA l).trans (hmem l))⟩
                      · rcases List.mem_cons.1 hl with rfl | hl
                        · refine .inr ⟨hb1, ?_⟩
                          rcases hb2 with hb2 | hb2
                          · have e := hfr hb2
                            subst e
                            obtain ⟨b3, o3, _, _, k2⟩ := xLoad_ok (w0 := wx) (out := ox) (G := G) (ρ := ρ0) (n := n0) hv'
                            exact wf_cells (k2 w00 M0).2
                          · exact (cellsSame_ok hb2 M0).2.1
                        · exact g4 l hl
                      · rcases (hLA l).1 hl with h | h
                        · exact absurd hli (ldNo_ok hb3 l h)
                        · rcases List.mem_cons.1 h with h | h
                          · exact h
                          · exact absurd hli (ldNo_ok hb4 l h)
                  · cases h
                · cases h
            · cases h
          · split at h
            · rename_i v hv'
              split at h
              · rename_i T' ht
                obtain ⟨fr1, Lp1, T1, H1, n1, L1, g1, g2, g3, g4, g5⟩ := xOps_run M0 h hfr
                exact ⟨fr1, Lp1, T1, H1, n1, L1, g1, g2, g3, g4, fun LA hLA => .pure ho hw hv' ht (g5 LA hLA)⟩
              · cases h
            · cases h
        | false =>
          simp only at h
          split at h
          · rename_i v H' n' he
            split at h
            · rename_i T' ht
              split at h
              · rename_i T3 H3 n3 L' hrec
                cases hk : ldKeep ms i (hv H') (Lp ++ L') with
                | false => rw [hk] at h; cases h
                | true =>
                  rw [hk] at h
                  simp only [cond_true, Option.some.injEq, Prod.mk.injEq] at h
                  obtain ⟨rfl, rfl, rfl, rfl⟩ := h
                  obtain ⟨fr1, Lp1, T1, H1, n1, L1, g1, g2, g3, g4, g5⟩ := xOps_run M0 hrec (fun e => by cases e)
                  refine ⟨fr1, Lp1, T1, H1, n1, L1, g1, g2, g3, g4, fun LA hLA => .eff ho hw he ht (fun l hl hi => ?_) (g5 LA hLA)⟩
                  refine ldKeep_ok hk l ?_ hi
                  rcases (hLA l).1 hl with h | h
                  · exact List.mem_append_left _ h
                  · exact List.mem_append_right _ h
              · cases h
            · cases h
          · cases h
end
/-! ### values that ask nothing of the room -/
mutual
def solid (n : Nat) : AV → Bool
  | .lit _ => true
  | .ptr b _ => Nat.blt b n
  | .slc b _ _ _ l (some k) => Nat.blt b n && Nat.ble l k
  | .slc _ _ _ _ _ none => false
  | .mp b => Nat.blt b n
  | .agg l => solids n l
  | .tup l => solids n l
  | .ifc _ v => solid n v
  | .fn _ xs ys => solids n xs && solids n ys
  | .yld b => Nat.blt b n
  | .mrk _ => false
def solids (n : Nat) : List AV → Bool
  | [] => true
  | v :: l => solid n v && solids n l
end
mutual
theorem solid_wf {n m : Nat} (ρ : Env) (hm : n ≤ m) : ∀ (v : AV), solid n v = true → v.wf ρ m
  | .lit _, _ => by simp only [AV.wf]
  | .ptr b _, h => by simp only [solid, Nat.blt_eq] at h; simp only [AV.wf]; omega
  | .slc b _ _ j l (some k), h => by
    simp only [solid, Bool.and_eq_true, Nat.blt_eq, Nat.ble_eq] at h
    simp only [AV.wf]
    exact ⟨by omega, fun e => (by cases e), fun k' e => (by cases e; exact h.2)⟩
  | .slc _ _ _ _ _ none, h => by simp [solid] at h
  | .mp b, h => by simp only [solid, Nat.blt_eq] at h; simp only [AV.wf]; omega
  | .agg l, h => by simp only [solid] at h; simp only [AV.wf]; exact solids_wf ρ hm l h
  | .tup l, h => by simp only [solid] at h; simp only [AV.wf]; exact solids_wf ρ hm l h
  | .ifc _ v, h => by simp only [solid] at h; simp only [AV.wf]; exact solid_wf ρ hm v h
  | .fn _ xs ys, h => by simp only [solid, Bool.and_eq_true] at h; simp only [AV.wf]; exact ⟨solids_wf ρ hm xs h.1, solids_wf ρ hm ys h.2⟩
  | .yld b, h => by simp only [solid, Nat.blt_eq] at h; simp only [AV.wf]; omega
  | .mrk _, h => by simp [solid] at h
theorem solids_wf {n m : Nat} (ρ : Env) (hm : n ≤ m) : ∀ (l : List AV), solids n l = true → AV.wfs ρ m l
  | [], _ => by simp only [AV.wfs]
  | v :: l, h => by simp only [solids, Bool.and_eq_true] at h; simp only [AV.wfs]; exact ⟨solid_wf ρ hm v h.1, solids_wf ρ hm l h.2⟩
end
/-- speaks of this block alone -/
def own (b : Nat) : AV → Bool
  | .ptr c _ => c.beq b
  | .mp c => c.beq b
  | .slc c _ _ _ l (some k) => c.beq b && Nat.ble l k
  | _ => false
theorem own_wf {b m : Nat} {v : AV} (ρ : Env) (h : own b v = true) (hm : b < m) : v.wf ρ m := by
  unfold own at h
  split at h
  · rw [Nat.eq_of_beq_eq_true h]; simp only [AV.wf]; exact hm
  · rw [Nat.eq_of_beq_eq_true h]; simp only [AV.wf]; exact hm
  · rename_i c _ _ _ l k
    simp only [Bool.and_eq_true, Nat.ble_eq] at h
    rw [Nat.eq_of_beq_eq_true h.1]
    simp only [AV.wf]
    exact ⟨hm, fun e => (by cases e), fun k' e => (by cases e; exact h.2)⟩
  · cases h
theorem own_conc {b : Nat} {v : AV} {ρ ρ' : Env} (h : own b v = true) (he : ρ' b = ρ b) : v.conc ρ' = v.conc ρ := by
  unfold own at h
  split at h
  · rw [Nat.eq_of_beq_eq_true h]; simp only [AV.conc, he]
  · rw [Nat.eq_of_beq_eq_true h]; simp only [AV.conc, he]
  · simp only [Bool.and_eq_true] at h
    rw [Nat.eq_of_beq_eq_true h.1]
    simp only [AV.conc, he, capOf]
  · cases h
def entsBelow (n : Nat) : List (Value × AV × Nat) → Bool
  | [] => true
  | x :: l => solid n x.2.1 && entsBelow n l
def aoBelow (n : Nat) : AO → Bool
  | .cells l _ _ => solids n l
  | .map es _ => entsBelow n es
  | _ => false
theorem aoBelow_wf {n : Nat} (ρ : Env) {o : AO} (h : aoBelow n o = true) : AO.wf ρ n o := by
  cases o with
  | cells l e x => exact solids_wf ρ (Nat.le_refl _) l h
  | map es c =>
    simp only [AO.wf]
    simp only [aoBelow] at h
    induction es with
    | nil => intro x hx; cases hx
    | cons y es ih =>
      simp only [entsBelow, Bool.and_eq_true] at h
      intro x hx
      rcases List.mem_cons.1 hx with rfl | hx
      · exact solid_wf ρ (Nat.le_refl _) _ h.1
      · exact ih h.2 x hx
  | loop => simp [aoBelow] at h
  | dfr => simp [aoBelow] at h
theorem objOk_two {ρ ρ' : Env} {n b : Nat} {w w' : World} {o : AO} (hb : ρ' b = ρ b) (hρ : ∀ c, c < n → ρ' c = ρ c) (hw : aoBelow n o = true) (hh : w'.heap[(ρ b).blk]? = w.heap[(ρ b).blk]?) (H : ObjOk ρ w b o) : ObjOk ρ' w' b o := by
  have hwf := aoBelow_wf ρ hw
  cases o with
  | cells l e x =>
    obtain ⟨c, t, h1, h2, h3, h4, h5⟩ := H
    refine ⟨c, t, ?_, fun i v hv => ?_, ?_, ?_, by rw [hb]; exact h5⟩
    · rw [hb, hh]; exact h1
    · rw [hb, h2 i v hv, conc_ext hρ v ((wfs_iff ρ n l).1 hwf v (List.mem_of_getElem? hv))]
    · rw [hb]; exact h3
    · rw [hb]; exact h4
  | map es clock =>
    simp only [ObjOk] at *
    have e : (es.map fun x => ({ key := x.1, val := x.2.1.conc ρ', born := x.2.2 } : MapEntry)) = es.map fun x => ({ key := x.1, val := x.2.1.conc ρ, born := x.2.2 } : MapEntry) :=
      List.map_congr_left fun x hx => by rw [conc_ext hρ x.2.1 (hwf x hx)]
    rw [hb, hh, H, e]
  | loop => simp [aoBelow] at hw
  | dfr => simp [aoBelow] at hw
end
end Cx
end Go.Proofs.YtcpkihikmpkdnaaGreatDoor
