/- A verified executor of closed calls, part 3: slices of slices, aggregates, builtins that make no memory, loads. -/
import Derived.Test.YtcpkihikmpkdnaaGreatDoorCb
set_option linter.unusedVariables false
set_option linter.unusedSimpArgs false
namespace Go.Proofs.YtcpkihikmpkdnaaGreatDoor
namespace Cx
noncomputable section
def optNat : Option AV → Option (Option Nat)
  | none => some none
  | some v => match v with
    | .lit (.int _ (.ofNat k)) => some (some k)
    | _ => none
def IsIdx (v : Option Value) : Option Nat → Prop
  | none => v = none
  | some k => ∃ kd, v = some (.int kd (k : Int))
theorem optNat_eq {ρ : Env} {x : Option AV} {r : Option Nat} (h : optNat x = some r) : IsIdx (x.map (AV.conc ρ)) r := by
  unfold optNat at h
  split at h
  · cases h; rfl
  · split at h
    · rename_i kd k
      cases h
      exact ⟨kd, by simp [AV.conc, capOf]⟩
    · cases h
theorem bound_run {P : Program} {kd : IntKind} {k y : Nat} {code : BoundsCode} (h : k ≤ y) (w : World) : (Instr.sliceBound (.int kd (k : Int)) y code).run P w = .ok k w := by
  simp [Instr.sliceBound, asIntOf, h]
theorem bounds_run {P : Program} {isS : Bool} {len cap : Nat} {lo hi mx : Option Value} {l h m : Option Nat} (hl : IsIdx lo l) (hh : IsIdx hi h) (hm : IsIdx mx m)
    (h1 : ∀ m', m = some m' → m' ≤ cap ∧ h.isSome = true) (h2 : h.getD len ≤ m.getD cap) (h3 : l.getD 0 ≤ h.getD len) (w : World) :
    (Instr.sliceBounds isS len cap lo hi mx).run P w = .ok (l.getD 0, h.getD len, m.getD cap) w := by
  have e1 : ∀ (code : BoundsCode), (match l with | none => lo = none | some k => ∃ kd, lo = some (.int kd (k : Int))) := fun _ => by cases l <;> exact hl
  cases m with
  | none =>
    simp only [IsIdx] at hm
    subst hm
    cases h with
    | none =>
      simp only [IsIdx] at hh
      subst hh
      cases l with
      | none => simp only [IsIdx] at hl; subst hl; simp [Instr.sliceBounds]
      | some l => obtain ⟨kd, rfl⟩ := hl; simp at h3; simp [Instr.sliceBounds, bound_run h3]
    | some h =>
      obtain ⟨kd, rfl⟩ := hh
      simp at h2 h3
      cases l with
      | none => simp only [IsIdx] at hl; subst hl; simp [Instr.sliceBounds, bound_run h2]
      | some l => obtain ⟨kd', rfl⟩ := hl; simp at h3; simp [Instr.sliceBounds, bound_run h2, bound_run h3]
  | some m =>
    obtain ⟨km, rfl⟩ := hm
    obtain ⟨g1, g2⟩ := h1 m rfl
    cases h with
    | none => simp at g2
    | some h =>
      obtain ⟨kd, rfl⟩ := hh
      simp at h2 h3
      cases l with
      | none => simp only [IsIdx] at hl; subst hl; simp [Instr.sliceBounds, bound_run g1, bound_run h2]
      | some l => obtain ⟨kd', rfl⟩ := hl; simp at h3; simp [Instr.sliceBounds, bound_run g1, bound_run h2, bound_run h3]
def lowCap (len : Nat) : Option Nat → Nat
  | some k => k
  | none => len
/-- behind the bounds: from l to h, the room known (m) or up to the block's end -/
def xCut (b o o' j len s l h : Nat) : Option Nat → Option AV
  | some m => bif m.beq l then some (.slc b o o' j (h - l) (some 0)) else bif o.beq o' then some (.slc b (o + l * s) (o + l * s) j (h - l) (some (m - l))) else none
  | none => bif l.beq 0 then some (.slc b o o' j h none) else bif o.beq o' then (bif Nat.blt l len then some (.slc b (o + l * s) (o + l * s) (j + l) (h - l) none) else some (.slc b o (o + l * s) (j + l) (h - l) none)) else none
def hiOk (m h : Option Nat) : Bool :=
  match m with
  | some _ => h.isSome
  | none => true
def xSlc (b o o' j len : Nat) (c : Option Nat) (s : Nat) (lo hi mx : Option Nat) : Option AV :=
  bif hiOk mx hi && Nat.ble (mx.getD (lowCap len c)) (lowCap len c) && Nat.ble (hi.getD len) (mx.getD (lowCap len c)) && Nat.ble (lo.getD 0) (hi.getD len) then
    xCut b o o' j len s (lo.getD 0) (hi.getD len) (match mx with | some m => some m | none => c)
  else none
theorem xSlc_ok {P : Program} {ρ : Env} {n : Nat} {isS : Bool} {b o o' j len : Nat} {c : Option Nat} {s : Nat} {lo hi mx : Option Nat} {v : AV} {vl vh vm : Option Value}
    (hx : AV.wf ρ n (.slc b o o' j len c)) (hl : IsIdx vl lo) (hh : IsIdx vh hi) (hm : IsIdx vm mx) (h : xSlc b o o' j len c s lo hi mx = some v) (w : World) :
    ∃ l h' m, (Instr.sliceBounds isS len (capOf ρ b j c) vl vh vm).run P w = .ok (l, h', m) w ∧
      v.conc ρ = .slice (some (if m = l then ⟨(ρ b).blk, (ρ b).base + (if (ρ b).room = j then o else o'), none⟩ else ⟨(ρ b).blk, (ρ b).base + (if (ρ b).room = j then o else o') + l * s, none⟩)) (h' - l) (m - l) ∧ v.wf ρ n := by
  unfold xSlc at h
  simp only [AV.wf] at hx
  obtain ⟨hb, hc1, hc2⟩ := hx
  cases hcond : (hiOk mx hi && Nat.ble (mx.getD (lowCap len c)) (lowCap len c) && Nat.ble (hi.getD len) (mx.getD (lowCap len c)) && Nat.ble (lo.getD 0) (hi.getD len)) with
  | false => rw [hcond] at h; cases h
  | true =>
    rw [hcond] at h
    simp only [Bool.and_eq_true, Nat.ble_eq] at hcond
    obtain ⟨⟨⟨k0, k1⟩, k2⟩, k3⟩ := hcond
    simp only [cond_true] at h
    have hlc : lowCap len c ≤ capOf ρ b j c := by
      cases c with
      | none => have := hc1 rfl; simp only [lowCap, capOf]; omega
      | some k => simp [lowCap, capOf]
    refine ⟨lo.getD 0, hi.getD len, mx.getD (capOf ρ b j c), bounds_run hl hh hm (fun m' e => ?_) ?_ k3 w, ?_⟩
    · subst e; simp only [hiOk, Option.getD_some] at k0 k1; exact ⟨by omega, k0⟩
    · cases mx with
      | none => simp only [Option.getD_none] at k2 ⊢; omega
      | some m => exact k2
    · generalize lo.getD 0 = l at *
      generalize hi.getD len = h' at *
      have known : ∀ m, (match mx with | some m => some m | none => c) = some m → mx.getD (capOf ρ b j c) = m ∧ h' ≤ m := by
        intro m e
        cases mx with
        | none => simp only at e; subst e; exact ⟨rfl, k2⟩
        | some m' => simp only [Option.some.injEq] at e; subst e; exact ⟨rfl, k2⟩
      cases hmm : (match mx with | some m => some m | none => c) with
      | some m =>
        obtain ⟨e1, e2⟩ := known m hmm
        rw [hmm] at h
        rw [e1]
        simp only [xCut] at h
        by_cases hml : m.beq l = true
        · rw [hml] at h
          have hml := Nat.eq_of_beq_eq_true hml
          subst hml
          cases h
          refine ⟨by simp [AV.conc, capOf], by simp only [AV.wf]; exact ⟨hb, fun e => (by cases e), fun k e => (by cases e; omega)⟩⟩
        · rw [Bool.eq_false_iff.2 hml] at h
          have hml : ¬ m = l := fun e => hml (by rw [e]; exact Nat.beq_refl l)
          by_cases ho : o.beq o' = true
          · rw [ho] at h
            have ho := Nat.eq_of_beq_eq_true ho
            subst ho
            cases h
            refine ⟨by simp [AV.conc, capOf, hml, Nat.add_assoc], by simp only [AV.wf]; exact ⟨hb, fun e => (by cases e), fun k e => (by cases e; omega)⟩⟩
          · rw [Bool.eq_false_iff.2 ho] at h; cases h
      | none =>
        have hmx : mx = none := by cases mx with
          | none => rfl
          | some m => simp at hmm
        subst hmx
        simp only at hmm
        subst hmm
        rw [show (match (none : Option Nat) with | some m => some m | none => (none : Option Nat)) = none from rfl] at h
        simp only [Option.getD_none, lowCap] at k1 k2
        have hj := hc1 rfl
        simp only [Option.getD_none, capOf]
        simp only [xCut] at h
        by_cases hl0 : l.beq 0 = true
        · rw [hl0] at h
          have hl0 := Nat.eq_of_beq_eq_true hl0
          subst hl0
          cases h
          refine ⟨by simp [AV.conc, capOf], by simp only [AV.wf]; exact ⟨hb, fun _ => by omega, fun k e => (by cases e)⟩⟩
        · rw [Bool.eq_false_iff.2 hl0] at h
          have hl0 : ¬ l = 0 := fun e => hl0 (by rw [e]; rfl)
          by_cases ho : o.beq o' = true
          · rw [ho] at h
            have ho := Nat.eq_of_beq_eq_true ho
            subst ho
            by_cases hlt : Nat.blt l len = true
            · rw [hlt] at h
              have hlt : l < len := by simpa [Nat.blt_eq] using hlt
              cases h
              have e1 : ¬ (ρ b).room - j = l := by omega
              refine ⟨?_, by simp only [AV.wf]; exact ⟨hb, fun _ => by omega, fun k e => (by cases e)⟩⟩
              simp only [AV.conc, capOf, e1, if_false, ite_self, Nat.add_assoc, Nat.sub_sub]
            · rw [Bool.eq_false_iff.2 hlt] at h
              have hlt : ¬ l < len := by simpa [Nat.blt_eq] using hlt
              cases h
              refine ⟨?_, by simp only [AV.wf]; exact ⟨hb, fun _ => by omega, fun k e => (by cases e)⟩⟩
              simp only [AV.conc, capOf, ite_self, Nat.sub_sub]
              by_cases e : (ρ b).room = j + l
              · have e1 : (ρ b).room - j = l := by omega
                rw [if_pos e, if_pos e1]
              · have e1 : ¬ (ρ b).room - j = l := by omega
                rw [if_neg e, if_neg e1, Nat.add_assoc]
          · rw [Bool.eq_false_iff.2 ho] at h; cases h
def litOpt : Option AV → Option (Option Value)
  | none => some none
  | some (.lit v) => some (some v)
  | _ => none
theorem litOpt_eq {ρ : Env} {x : Option AV} {r : Option Value} (h : litOpt x = some r) : x.map (AV.conc ρ) = r := by
  unfold litOpt at h
  split at h <;> cases h <;> simp [AV.conc, capOf]
def xSliceAt (P : Program) (t : TypeId) (x : AV) (lo hi mx : Option AV) : Option AV :=
  match x with
  | .slc b o o' j len c => match optNat lo, optNat hi, optNat mx, P.underlying t with
    | some l, some h, some m, some (.slice e) => match aSize P e with
      | some s => xSlc b o o' j len c s l h m
      | none => none
    | _, _, _, _ => none
  | .ptr b o => match optNat lo, optNat hi, optNat mx, P.underlying t with
    | some l, some h, some m, some (.array n e) => match aSize P e with
      | some s => xSlc b o o 0 n (some n) s l h m
      | none => none
    | _, _, _, _ => none
  | .lit u => match litOpt lo, litOpt hi, litOpt mx with
    | some l, some h, some m => (quick P (Instr.sliceAt t u l h m)).map litAgg
    | _, _, _ => none
  | _ => none
theorem xSliceAt_ok {P : Program} {ρ : Env} {n : Nat} {t : TypeId} {x v : AV} {lo hi mx : Option AV} (hx : x.wf ρ n) (h : xSliceAt P t x lo hi mx = some v) (w : World) :
    (Instr.sliceAt t (x.conc ρ) (lo.map (AV.conc ρ)) (hi.map (AV.conc ρ)) (mx.map (AV.conc ρ))).run P w = .ok (v.conc ρ) w ∧ v.wf ρ n := by
  unfold xSliceAt at h
  split at h
  · rename_i b o o' j len c
    split at h
    · rename_i l h' m e hl hh hm hu
      split at h
      · rename_i s hs
        obtain ⟨l', h'', m', hb, hv, hw⟩ := xSlc_ok (P := P) (isS := true) hx (optNat_eq (ρ := ρ) hl) (optNat_eq (ρ := ρ) hh) (optNat_eq (ρ := ρ) hm) h w
        refine ⟨?_, hw⟩
        rw [hv]
        simp only [Instr.sliceAt, Sem.run_bind, run_underlying hu, Result.andThen_ok, Instr.slice, AV.conc, hb, run_size hs]
        by_cases e : m' = l'
        · simp [e]
        · simp [e, add_off]
      · cases h
    · cases h
  · rename_i b o
    split at h
    · rename_i l h' m k e hl hh hm hu
      split at h
      · rename_i s hs
        have hx' : AV.wf ρ n (.slc b o o 0 k (some k)) := by simp only [AV.wf]; exact ⟨hx, fun e => by (cases e), fun q e => by (cases e; omega)⟩
        obtain ⟨l', h'', m', hb, hv, hw⟩ := xSlc_ok (P := P) (isS := false) hx' (optNat_eq (ρ := ρ) hl) (optNat_eq (ρ := ρ) hh) (optNat_eq (ρ := ρ) hm) h w
        refine ⟨?_, hw⟩
        rw [hv]
        simp only [capOf] at hb
        simp only [Instr.sliceAt, Sem.run_bind, run_underlying hu, Result.andThen_ok, Instr.sureAddr, AV.conc, hb, run_size hs]
        by_cases e : m' = l'
        · simp [e, hb, run_size hs]
        · simp [e, hb, run_size hs, add_off]
      · cases h
    · cases h
  · rename_i u
    split at h
    · rename_i l h' m hl hh hm
      obtain ⟨u', hu, rfl⟩ := Option.map_eq_some_iff.1 h
      rw [conc_litAgg, litOpt_eq hl, litOpt_eq hh, litOpt_eq hm]
      exact ⟨quick_run hu w, wf_litAgg _ _ _⟩
    · cases h
  · cases h
/-! ### aggregates -/
def aZero (P : Program) (t : TypeId) : Option AV := match P.info? t with
  | some i => i.zero.map litAgg
  | none => none
theorem run_zero {P : Program} {ρ : Env} {t : TypeId} {v : AV} (h : aZero P t = some v) (w : World) : (zeroValue t).run P w = .ok (v.conc ρ) w := by
  unfold aZero at h
  split at h
  · rename_i i hi
    obtain ⟨z, hz, rfl⟩ := Option.map_eq_some_iff.1 h
    simp [zeroValue, typeInfo, hi, hz, conc_litAgg]
  · cases h
theorem plain_litAgg (v : Value) : (litAgg v).plain = true := by cases v <;> rfl
theorem zero_plain {P : Program} {t : TypeId} {v : AV} (h : aZero P t = some v) : v.plain = true ∧ ∀ ρ n, v.wf ρ n := by
  unfold aZero at h
  split at h
  · obtain ⟨z, hz, rfl⟩ := Option.map_eq_some_iff.1 h
    exact ⟨plain_litAgg z, fun ρ n => wf_litAgg ρ n z⟩
  · cases h
/-- some cells put in the place of others -/
def splice (l : List AV) (o : Nat) (vs : List AV) : Option (List AV) :=
  bif Nat.ble (o + vs.length) l.length then some (l.take o ++ (vs ++ l.drop (o + vs.length))) else none
theorem splice_eq {l vs r : List AV} {o : Nat} (h : splice l o vs = some r) : o + vs.length ≤ l.length ∧ r = l.take o ++ (vs ++ l.drop (o + vs.length)) := by
  unfold splice at h
  by_cases hb : Nat.ble (o + vs.length) l.length = true
  · rw [hb] at h; cases h; exact ⟨by simpa using hb, rfl⟩
  · rw [Bool.eq_false_iff.2 hb] at h; cases h
theorem splice_get {l vs r : List AV} {o : Nat} (h : splice l o vs = some r) (i : Nat) : r[i]? = if o ≤ i ∧ i < o + vs.length then vs[i - o]? else l[i]? := by
  obtain ⟨hle, rfl⟩ := splice_eq h
  by_cases h1 : i < o
  · rw [List.getElem?_append_left (by simp; omega), if_neg (by omega), List.getElem?_take, if_pos h1]
  · rw [List.getElem?_append_right (by simp; omega)]
    have e : i - (l.take o).length = i - o := by simp; omega
    rw [e]
    by_cases h2 : i < o + vs.length
    · rw [List.getElem?_append_left (by omega), if_pos ⟨by omega, h2⟩]
    · rw [List.getElem?_append_right (by omega), if_neg (by omega), List.getElem?_drop]
      congr 1
      omega
theorem splice_wf {ρ : Env} {n : Nat} {l vs r : List AV} {o : Nat} (h : splice l o vs = some r) (hl : AV.wfs ρ n l) (hv : AV.wfs ρ n vs) : AV.wfs ρ n r ∧ r.length = l.length := by
  obtain ⟨hle, rfl⟩ := splice_eq h
  have h1 := (wfs_iff ρ n l).1 hl
  have h2 := (wfs_iff ρ n vs).1 hv
  refine ⟨(wfs_iff ρ n _).2 fun v hv => ?_, by simp; omega⟩
  rcases List.mem_append.1 hv with hv | hv
  · exact h1 v (List.mem_of_mem_take hv)
  · rcases List.mem_append.1 hv with hv | hv
    · exact h2 v hv
    · exact h1 v (List.mem_of_mem_drop hv)
theorem foldl_set (vs : List Value) : ∀ (k off : Nat) (c : Array Value), ((vs.zipIdx k).foldl (fun cs (x : Value × Nat) => cs.setIfInBounds (off + x.2) x.1) c).size = c.size ∧
    ∀ i, ((vs.zipIdx k).foldl (fun cs (x : Value × Nat) => cs.setIfInBounds (off + x.2) x.1) c)[i]? = if off + k ≤ i ∧ i < off + k + vs.length ∧ i < c.size then vs[i - (off + k)]? else c[i]? := by
  induction vs with
  | nil => intro k off c; refine ⟨rfl, fun i => ?_⟩; rw [if_neg (by simp; omega)]; rfl
  | cons v vs ih =>
    intro k off c
    simp only [List.zipIdx_cons, List.foldl_cons]
    obtain ⟨h1, h2⟩ := ih (k + 1) off (c.setIfInBounds (off + k) v)
    refine ⟨by rw [h1]; simp, fun i => ?_⟩
    rw [h2]
    simp only [Array.size_setIfInBounds, List.length_cons, Array.getElem?_setIfInBounds]
    by_cases e : i = off + k
    · subst e
      rw [if_neg (by omega), if_pos rfl]
      by_cases hc : off + k < c.size
      · rw [if_pos hc, if_pos ⟨by omega, by omega, hc⟩]; simp
      · rw [if_neg hc, if_neg (by omega), Array.getElem?_eq_none (by omega)]
    · rw [if_neg (show ¬ off + k = i from fun h => e h.symm)]
      by_cases hr : off + (k + 1) ≤ i ∧ i < off + (k + 1) + vs.length ∧ i < c.size
      · rw [if_pos hr, if_pos (by omega)]
        rw [show i - (off + k) = (i - (off + (k + 1))) + 1 from by omega, List.getElem?_cons_succ]
      · rw [if_neg hr, if_neg (by omega)]
def putAt (o : Nat) (c : Array Value) (vs : Array Value) : Array Value := vs.zipIdx.foldl (fun cs (c, j) => cs.setIfInBounds (o + j) c) c
theorem splice_array {ρ : Env} {l vs r : List AV} {o : Nat} (h : splice l o vs = some r) : putAt o ⟨l.map (AV.conc ρ)⟩ ⟨vs.map (AV.conc ρ)⟩ = ⟨r.map (AV.conc ρ)⟩ := by
  obtain ⟨hle, _⟩ := splice_eq h
  have hf := foldl_set (vs.map (AV.conc ρ)) 0 o ⟨l.map (AV.conc ρ)⟩
  have e : putAt o ⟨l.map (AV.conc ρ)⟩ ⟨vs.map (AV.conc ρ)⟩ = (((vs.map (AV.conc ρ)).zipIdx 0).foldl (fun (cs : Array Value) (x : Value × Nat) => cs.setIfInBounds (o + x.2) x.1) (⟨l.map (AV.conc ρ)⟩ : Array Value)) := by
    unfold putAt
    rw [← Array.foldl_toList]; simp
  rw [e]
  apply Array.ext_getElem?
  intro i
  rw [hf.2 i]
  have hg := splice_get h i
  simp only [Nat.add_zero, List.length_map]
  have e2 : (⟨r.map (AV.conc ρ)⟩ : Array Value)[i]? = (r[i]?).map (AV.conc ρ) := by simp
  have e3 : (⟨l.map (AV.conc ρ)⟩ : Array Value)[i]? = (l[i]?).map (AV.conc ρ) := by simp
  rw [e2, e3, hg]
  have hs : (⟨l.map (AV.conc ρ)⟩ : Array Value).size = l.length := by simp
  rw [hs]
  by_cases hr : o ≤ i ∧ i < o + vs.length
  · rw [if_pos hr, if_pos ⟨hr.1, hr.2, by omega⟩, List.getElem?_map]
  · rw [if_neg hr, if_neg (by omega)]
/-- the parts of an aggregate put in their places -/
def xFill (place : Nat → Option (Nat × Nat)) (l : List AV) : List (Nat × AV) → Option (List AV)
  | [] => some l
  | (i, v) :: rest => match place i with
    | none => none
    | some (off, size) => bif v.plain && v.cells.length.beq size then (match splice l off v.cells with
      | some l' => xFill place l' rest
      | none => none) else none
theorem xFill_ok {ρ : Env} {n : Nat} {place : Nat → Option (Nat × Nat)} : ∀ {ps : List (Nat × AV)} {l r : List AV}, xFill place l ps = some r → AV.wfs ρ n l → (∀ p ∈ ps, p.2.wf ρ n) →
    Instr.fill place ⟨l.map (AV.conc ρ)⟩ (ps.map fun p => (p.1, p.2.conc ρ)) = some ⟨r.map (AV.conc ρ)⟩ ∧ AV.wfs ρ n r ∧ r.length = l.length
  | [], l, r, h, hl, _ => by simp only [xFill, Option.some.injEq] at h; subst h; exact ⟨rfl, hl, rfl⟩
  | (i, v) :: rest, l, r, h, hl, hp => by
    simp only [xFill] at h
    split at h
    · cases h
    · rename_i off size hpl
      cases hc : (v.plain && v.cells.length.beq size) with
      | false => rw [hc] at h; cases h
      | true =>
        rw [hc] at h
        simp only [cond_true] at h
        rw [Bool.and_eq_true] at hc
        have hsz := Nat.eq_of_beq_eq_true hc.2
        split at h
        · rename_i l' hs
          obtain ⟨hw, hlen⟩ := splice_wf (ρ := ρ) (n := n) hs hl (wf_cells (hp (i, v) (by simp)))
          obtain ⟨h1, h2, h3⟩ := xFill_ok h hw (fun p hp' => hp p (by simp [hp']))
          refine ⟨?_, h2, by omega⟩
          simp only [List.map_cons, Instr.fill, hpl]
          rw [conc_cells ρ hc.1]
          have hle := (splice_eq hs).1
          have e1 : ¬ ((decide ((⟨v.cells.map (AV.conc ρ)⟩ : Array Value).size ≠ size) || decide (off + (⟨v.cells.map (AV.conc ρ)⟩ : Array Value).size > (⟨l.map (AV.conc ρ)⟩ : Array Value).size)) = true) := by
            simp; omega
          rw [if_neg e1, ← h1]
          have := splice_array (ρ := ρ) hs
          unfold putAt at this
          rw [this]
        · cases h
theorem rp {α : Type} {P : Program} (a : α) (w : World) : (pure a : Sem α).run P w = .ok a w := rfl
def fieldPl (P : Program) (fs : Array Field) (i : Nat) : Option (Nat × Nat) := match fs[i]? with
  | some f => match aSize P f.type with
    | some s => some (f.offset, s)
    | none => none
  | none => none
def allSized (P : Program) : List Field → Bool
  | [] => true
  | f :: l => match aSize P f.type with
    | some _ => allSized P l
    | none => false
theorem allSized_run {P : Program} : ∀ {l : List Field}, allSized P l = true → ∀ w, ∃ r : List (Nat × Nat), (l.mapM fun (f : Field) => (do pure (f.offset, ← sizeOf f.type) : Sem (Nat × Nat))).run P w = .ok r w ∧ ∀ i : Nat, r[i]? = (l[i]?).bind fun (f : Field) => (aSize P f.type).map fun s => (f.offset, s)
  | [], _, w => ⟨[], rfl, fun i => by simp⟩
  | f :: l, h, w => by
    simp only [allSized] at h
    split at h
    · rename_i s hs
      obtain ⟨r, h1, h2⟩ := allSized_run h w
      refine ⟨(f.offset, s) :: r, ?_, fun i => ?_⟩
      · simp only [List.mapM_cons, Sem.run_bind, run_size hs, Result.andThen_ok, rp, h1]
      cases i with
      | zero => simp [hs]
      | succ i => simp [h2]
    · cases h
def xBuild (P : Program) (t : TypeId) (ps : List (Nat × AV)) : Option AV :=
  match aZero P t with
  | none => none
  | some z => match P.underlying t with
    | some (.struct fs) => bif allSized P fs.toList then (xFill (fieldPl P fs) z.cells ps).map .agg else none
    | some (.array _ e) => match aSize P e with
      | some s => (xFill (fun i => some (i * s, s)) z.cells ps).map .agg
      | none => none
    | _ => none
theorem fill_congr {p q : Nat → Option (Nat × Nat)} (h : ∀ i, p i = q i) (c : Array Value) (l : List (Nat × Value)) : Instr.fill p c l = Instr.fill q c l := by
  rw [show p = q from funext h]
theorem xBuild_ok {P : Program} {ρ : Env} {n : Nat} {t : TypeId} {ps : List (Nat × AV)} {v : AV} (hx : ∀ p ∈ ps, p.2.wf ρ n) (h : xBuild P t ps = some v) (w : World) :
    (Instr.build t ⟨ps.map fun p => (p.1, p.2.conc ρ)⟩).run P w = .ok (v.conc ρ) w ∧ v.wf ρ n := by
  unfold xBuild at h
  split at h
  · cases h
  · rename_i z hz
    have hzr := run_zero (ρ := ρ) hz w
    obtain ⟨hzp, hzw⟩ := zero_plain hz
    split at h
    · rename_i fs hu
      cases ha : allSized P fs.toList with
      | false => rw [ha] at h; cases h
      | true =>
        rw [ha] at h
        obtain ⟨r, hr, rfl⟩ := Option.map_eq_some_iff.1 h
        obtain ⟨h1, h2, _⟩ := xFill_ok (ρ := ρ) (n := n) hr (wf_cells (hzw ρ n)) hx
        refine ⟨?_, h2⟩
        obtain ⟨r', g1, g2⟩ := allSized_run ha w
        have hm : (fs.mapM fun (f : Field) => (do pure (f.offset, ← sizeOf f.type) : Sem (Nat × Nat))).run P w = .ok r'.toArray w := by
          rw [Array.mapM_eq_mapM_toList, Sem.run_map, g1]
          rfl
        have hpl : ∀ i, r'.toArray[i]? = fieldPl P fs i := fun i => by
          rw [List.getElem?_toArray, g2]
          unfold fieldPl
          rw [Array.getElem?_toList]
          cases fs[i]? with
          | none => rfl
          | some f => cases h' : aSize P f.type <;> simp [h']
        have hfill : Instr.fill (r'.toArray[·]?) ⟨z.cells.map (AV.conc ρ)⟩ (ps.map fun p => (p.1, p.2.conc ρ)) = some ⟨r.map (AV.conc ρ)⟩ := (fill_congr hpl _ _).trans h1
        simp only [Instr.build, Sem.run_bind, hzr, Result.andThen_ok, run_underlying hu, hm, conc_cells ρ hzp, hfill, AV.conc, concs_map]
        rfl
    · rename_i k e hu
      split at h
      · rename_i s hs
        obtain ⟨r, hr, rfl⟩ := Option.map_eq_some_iff.1 h
        obtain ⟨h1, h2, _⟩ := xFill_ok (ρ := ρ) (n := n) hr (wf_cells (hzw ρ n)) hx
        refine ⟨?_, h2⟩
        simp only [Instr.build, Sem.run_bind, hzr, Result.andThen_ok, run_underlying hu, run_size hs, conc_cells ρ hzp, h1, AV.conc, concs_map]
        rfl
      · cases h
    · cases h
end
end Cx
end Go.Proofs.YtcpkihikmpkdnaaGreatDoor
