/- A verified executor of closed calls, part 7: append. -/
import Derived.Test.YtcpkihikmpkdnaaGreatDoorCf
import Derived.Deep.Upon
import Derived.Lib.AppendZerosOnto
set_option linter.unusedVariables false
set_option linter.unusedSimpArgs false
namespace Go.Proofs.YtcpkihikmpkdnaaGreatDoor
namespace Cx
noncomputable section
section
variable {P : Program} {w0 : World} {out : Nat → Prop} {G : Nat} {ρ : Env} {H : Hp} {n : Nat} {w : World}
/-- a row that goes by a new name from now on -/
theorem Mem.move {h : Hv} (M : Mem w0 out G ρ h n w) {b : Nat} {ao ao' : AO} (hb : h b = some ao) {sp : Spot} (hs : sp.blk = (ρ b).blk) {w' : World} (ho : ∀ x, x ≠ (ρ b).blk → w'.heap[x]? = w.heap[x]?) (hsz : w'.heap.size = w.heap.size)
    (hok : ObjOk (upd ρ n sp) w' n ao') (hwf : AO.wf (upd ρ n sp) (n + 1) ao') (he : SameEnv w w' := by exact ⟨rfl, rfl, rfl⟩) : Mem w0 out G (upd ρ n sp) (upd (upd h b none) n (some ao')) (n + 1) w' ∧ (∀ b, b < n → upd ρ n sp b = ρ b) := by
  have hρ : ∀ b, b < n → upd ρ n sp b = ρ b := fun b hb => upd_other _ _ (by omega)
  have get : ∀ {x y}, x ≠ n → upd (upd h b none) n (some ao') x = some y → h x = some y ∧ x ≠ b := fun {x y} hx hy => by
    rw [upd_other _ _ hx] at hy
    by_cases e : x = b
    · subst e; rw [upd_same] at hy; cases hy
    · rw [upd_other _ _ e] at hy; exact ⟨hy, e⟩
  have hblt := M.lt b ao hb
  refine ⟨⟨?_, ?_, ?_, ?_, ?_, ?_, ?_, by have := M.globs; omega, M.env.trans he⟩, hρ⟩
  · intro c o hc
    by_cases e : c = n
    · subst e; rw [upd_same] at hc; cases hc; exact ⟨hok, hwf⟩
    · obtain ⟨h1, h2⟩ := get e hc
      exact ⟨objOk_ext (M.lt c o h1) hρ (M.obj c o h1).2 (ho _ fun e' => h2 (M.inj c b o ao h1 hb e')) (M.obj c o h1).1, aoWf_ext hρ (by omega) (M.obj c o h1).2⟩
  · intro c o hc
    by_cases e : c = n
    · omega
    · have := M.lt c o (get e hc).1; omega
  · intro c o hc
    rw [hsz]
    by_cases e : c = n
    · subst e; rw [upd_same, hs]; exact M.blk b ao hb
    · rw [hρ c (M.lt c o (get e hc).1)]; exact M.blk c o (get e hc).1
  · intro c c' o o' hc hc' e
    by_cases e1 : c = n
    · by_cases e2 : c' = n
      · omega
      · obtain ⟨g1, g2⟩ := get e2 hc'
        subst e1
        rw [upd_same, hρ c' (M.lt c' o' g1), hs] at e
        exact absurd (M.inj b c' ao o' hb g1 e).symm g2
    · obtain ⟨g1, g2⟩ := get e1 hc
      by_cases e2 : c' = n
      · subst e2
        rw [upd_same, hρ c (M.lt c o g1), hs] at e
        exact absurd (M.inj c b o ao g1 hb e) g2
      · obtain ⟨g3, g4⟩ := get e2 hc'
        rw [hρ c (M.lt c o g1), hρ c' (M.lt c' o' g3)] at e
        exact M.inj c c' o o' g1 g3 e
  · intro c hc
    obtain ⟨h1, h2⟩ := M.outs c hc
    refine ⟨by omega, ?_⟩
    rw [ho c fun e => M.apart b ao hb (e ▸ hc)]
    exact h2
  · intro c o hc
    by_cases e : c = n
    · subst e; rw [upd_same, hs]; exact M.apart b ao hb
    · rw [hρ c (M.lt c o (get e hc).1)]; exact M.apart c o (get e hc).1
  · intro g hg
    have := M.globs
    rw [hρ g (by omega)]
    exact M.glob g hg
def byteLits (s : ByteArray) : List AV := s.data.toList.map fun b => .lit (.int .u8 b.toNat)
/-- what is appended: how many elements, their cells -/
def xSrc (P : Program) (h : Hv) (xt : Option TypeId) (size : Nat) (x : AV) : Option (Nat × List AV) :=
  match xt with
  | none => none
  | some xt => match x with
    | .slc b o o' _ len _ => match sliceElem P xt with
      | none => none
      | some _ => bif len.beq 0 then some (0, []) else bif o.beq o' then (match h b with
        | some (.cells l _ _) => match takeN (len * size) (l.drop o) with
          | some vs => bif vs.all AV.single then some (len, vs) else none
          | none => none
        | _ => none) else none
    | .lit (.slice none 0 _) => match sliceElem P xt with
      | some _ => some (0, [])
      | none => none
    | .lit (.string s) => match P.underlying xt with
      | some .string => bif size.beq 1 then some (s.size, byteLits s) else none
      | _ => none
    | _ => none
theorem xSrc_ok (M : Mem w0 out G ρ (hv H) n w) {xt : Option TypeId} {size : Nat} {x : AV} {k : Nat} {vs : List AV} (h : xSrc P (hv H) xt size x = some (k, vs)) :
    ∃ t, xt = some t ∧ Src P size t (x.conc ρ) k (vs.map (AV.conc ρ)) w ∧ AV.wfs ρ n vs ∧ vs.all AV.single = true := by
  unfold xSrc at h
  split at h
  · cases h
  · rename_i t
    refine ⟨t, rfl, ?_⟩
    split at h
    · rename_i b o o' j len c
      split at h
      · cases h
      · rename_i e he
        have hu := sliceElem_eq he
        by_cases hl : len.beq 0 = true
        · rw [hl] at h
          have hl := Nat.eq_of_beq_eq_true hl
          subst hl
          cases h
          exact ⟨Src.ofSlice w hu _ 0 _ [] (by simp) (fun j u hj => by simp at hj) (fun u hu => by cases hu), by simp only [AV.wfs], rfl⟩
        · rw [Bool.eq_false_iff.2 hl] at h
          by_cases ho : o.beq o' = true
          · rw [ho] at h
            have ho := Nat.eq_of_beq_eq_true ho
            subst ho
            simp only [cond_false, cond_true] at h
            split at h
            · rename_i l e2 x2 hb
              split at h
              · rename_i vs' hv
                cases hs : vs'.all AV.single with
                | false => rw [hs] at h; cases h
                | true =>
                  rw [hs] at h
                  cases h
                  obtain ⟨h1, rfl⟩ := takeN_eq hv
                  have hat : CellsAt ρ w b o ((l.drop o).take (k * size)) := M.cellsAt hb o _ fun i v hi => by
                    rw [List.getElem?_take] at hi
                    split at hi
                    · rwa [List.getElem?_drop] at hi
                    · cases hi
                  refine ⟨?_, (wfs_iff ρ n _).2 fun v hv => (wfs_iff ρ n l).1 (M.obj b _ hb).2 v (List.mem_of_mem_drop (List.mem_of_mem_take hv)), hs⟩
                  simp only [AV.conc, ite_self]
                  refine Src.ofSlice w hu _ k _ _ (by simp at h1 ⊢; omega) (fun j u hj => ?_) (all_one hs)
                  rw [List.getElem?_map] at hj
                  obtain ⟨v, hv, rfl⟩ := Option.map_eq_some_iff.1 hj
                  rw [add_off, Nat.add_assoc]
                  exact hat j v hv
              · cases h
            · cases h
          · rw [Bool.eq_false_iff.2 ho] at h; cases h
    · rename_i c
      split at h
      · rename_i e he
        cases h
        exact ⟨Src.ofNil w (sliceElem_eq he) c, by simp only [AV.wfs], rfl⟩
      · cases h
    · rename_i s
      split at h
      · rename_i hu
        by_cases hs : size.beq 1 = true
        · rw [hs] at h
          have hs := Nat.eq_of_beq_eq_true hs
          subst hs
          cases h
          have e : (byteLits s).map (AV.conc ρ) = byteCells s := by simp [byteLits, byteCells, AV.conc, Function.comp_def]
          refine ⟨by rw [e]; exact Src.ofString w hu s, (wfs_iff ρ n _).2 fun v hv => ?_, List.all_eq_true.2 fun v hv => ?_⟩
          · obtain ⟨b, _, rfl⟩ := List.mem_map.1 hv; simp only [AV.wf]
          · obtain ⟨b, _, rfl⟩ := List.mem_map.1 hv; rfl
        · rw [Bool.eq_false_iff.2 hs] at h; cases h
      · cases h
    · cases h
/-- a new, longer row -/
def xGrow (H : Hp) (n : Nat) (e : TypeId) (size bytes : Nat) (olds : Option (List AV)) (len k : Nat) (vs : List AV) : Option (AV × Hp × Nat) :=
  match olds with
  | none => none
  | some l => bif Nat.blt (n + 1) 1048576 && Nat.ble ((len + k) * bytes) 16777216 && Nat.ble (len + k) 16777216 && (l ++ vs).length.beq ((len + k) * size) then some (.slc n 0 0 0 (len + k) none, Tr.set 20 H n (some (.cells (l ++ vs) size (e, false))), n + 1) else none
theorem grow_eff (M : Mem w0 out G ρ (hv H) n w) {t : TypeId} {size bytes len k : Nat} {l vs : List AV} {r : AV × Hp × Nat} (h : xGrow H n t size bytes (some l) len k vs = some r) (hl : AV.wfs ρ n l) (hvs : AV.wfs ρ n vs)
    {res : Result Next} {cap : Nat} (hcap : len + k ≤ cap) {w' : World} {rest : Array Value} (hrest : rest.size = (cap - (len + k)) * size) (hw' : w'.heap = w.heap.push (.cells (((l ++ vs).map (AV.conc ρ)).toArray ++ rest) t))
    (hres : res = .ok (.value (.slice (some ⟨w.heap.size, 0, none⟩) (len + k) cap)) w') (he : SameEnv w w' := by exact ⟨rfl, rfl, rfl⟩) : Eff w0 out G ρ n r res := by
  unfold xGrow at h
  dsimp only at h
  cases hb : (Nat.blt (n + 1) 1048576 && Nat.ble ((len + k) * bytes) 16777216 && Nat.ble (len + k) 16777216 && (l ++ vs).length.beq ((len + k) * size)) with
  | false => rw [hb] at h; cases h
  | true =>
    rw [hb] at h
    cases h
    simp only [Bool.and_eq_true] at hb
    obtain ⟨⟨⟨b1, b2⟩, b3⟩, b4⟩ := hb
    have b1 : n + 1 < 1048576 := by simpa [Nat.blt_eq] using b1
    have b4 := Nat.eq_of_beq_eq_true b4
    have hρ : ∀ b, b < n → upd ρ n ⟨w.heap.size, 0, cap⟩ b = ρ b := fun b hb => upd_other _ _ (by omega)
    have hlv : AV.wfs ρ n (l ++ vs) := (wfs_iff ρ n _).2 fun v hv => by
      rcases List.mem_append.1 hv with hv | hv
      · exact (wfs_iff ρ n _).1 hl v hv
      · exact (wfs_iff ρ n _).1 hvs v hv
    have hmul : (len + k) * size ≤ cap * size := Nat.mul_le_mul_right _ hcap
    have hsub : (cap - (len + k)) * size = cap * size - (len + k) * size := Nat.sub_mul _ _ _
    have hok : ObjOk (upd ρ n ⟨w.heap.size, 0, cap⟩) w' n (.cells (l ++ vs) size (t, false)) := by
      refine ⟨((l ++ vs).map (AV.conc ρ)).toArray ++ rest, t, by rw [upd_same, hw', Array.getElem?_push]; simp, fun i v hv => ?_, ?_, ?_, rfl, by rw [upd_same], fun e => by cases e⟩
      · rw [upd_same, Nat.zero_add, conc_ext hρ v ((wfs_iff ρ n _).1 hlv v (List.mem_of_getElem? hv))]
        have hi := (List.getElem?_eq_some_iff.1 hv).1
        rw [Array.getElem?_append_left (by simpa using hi), List.getElem?_toArray, List.getElem?_map, hv]
        rfl
      · rw [upd_same, b4]; exact hmul
      · rw [upd_same]
        show 0 + cap * size ≤ _
        rw [Array.size_append, hrest, List.size_toArray, List.length_map, b4]
        omega
    obtain ⟨h1, h2⟩ := M.new (sp := ⟨w.heap.size, 0, cap⟩) rfl hw' hok (wfs_ext hρ (by omega) _ hlv) he
    refine ⟨_, w', .inl (hres.trans ?_), ?_, h2, ?_, by show n ≤ n + 1; omega⟩
    · simp [AV.conc, capOf, upd_same]
    · show Mem w0 out G _ (hv (Tr.set 20 H n _)) _ _
      rw [hv_set H n _ b1]
      exact h1
    · simp only [AV.wf]
      exact ⟨by omega, fun _ => by rw [upd_same]; show 0 + (len + k) ≤ cap; omega, fun q e => (by cases e)⟩
/-- into the room that is known to be there -/
def xInto (H : Hp) (n b o j len k at_ : Nat) (c : Option Nat) (l : List AV) (e : Nat) (x : TypeId × Bool) (vs : List AV) : Option (AV × Hp × Nat) :=
  match splice l at_ vs with
  | some l' => bif Nat.blt (b + 1) 1048576 then some (.slc b o o j (len + k) c, Tr.set 20 H b (some (.cells l' e x)), n) else none
  | none => none
/-- behind the end of what is known: the row goes by a new name -/
def xTail (H : Hp) (n b o len k : Nat) (l : List AV) (e : Nat) (x : TypeId × Bool) (vs : List AV) : Option (AV × Hp × Nat) :=
  bif Nat.blt (n + 1) 1048576 && Nat.blt (b + 1) 1048576 then some (.slc n 0 0 0 (len + k) none, Tr.set 20 (Tr.set 20 H b none) n (some (.cells (l.drop o ++ vs) e (x.1, false))), n + 1) else none
def xAppSlc (H : Hp) (n : Nat) (t : TypeId) (size bytes b o o' j len : Nat) (c : Option Nat) (l : List AV) (e : Nat) (x : TypeId × Bool) (k : Nat) (vs : List AV) : Option (AV × Hp × Nat) :=
  match c with
  | some q => bif Nat.ble (len + k) q then (bif o.beq o' then xInto H n b o j len k (o + len * size) (some q) l e x vs else none)
      else (bif o.beq o' then xGrow H n t size bytes (takeN (len * size) (l.drop o)) len k vs else (bif len.beq 0 then xGrow H n t size bytes (some []) len k vs else none))
  | none => bif o.beq o' && e.beq size then (bif Nat.ble ((j + len + k) * size) l.length then xInto H n b o j len k (o + len * size) none l e x vs
      else (bif o.beq 0 && j.beq 0 && x.1.beq t && (o + len * size).beq l.length && Nat.ble ((len + k) * bytes) 16777216 && Nat.ble (len + k) 16777216 && vs.length.beq (k * size) then xTail H n b o len k l e x vs else none)) else none
def xAppTo (H : Hp) (n : Nat) (t : TypeId) (size bytes : Nat) (s : AV) (k : Nat) (vs : List AV) : Option (AV × Hp × Nat) :=
  match s with
  | .lit (.slice none 0 0) => bif k.beq 0 then some (s, H, n) else xGrow H n t size bytes (some []) 0 k vs
  | .slc b o o' j len c => bif k.beq 0 then some (s, H, n) else (match hv H b with
    | some (.cells l e x) => xAppSlc H n t size bytes b o o' j len c l e x k vs
    | _ => none)
  | _ => none
/-- as many zeros -/
def xAppZeros (H : Hp) (n : Nat) (t : TypeId) (size bytes : Nat) (zs : List AV) (s x : AV) : Option (AV × Hp × Nat) :=
  match s, x with
  | .lit (.slice none 0 0), .lit (.int _ (.ofNat k)) => bif k.beq 0 then some (s, H, n) else xGrow H n t size bytes (some []) 0 k (repL k zs)
  | _, _ => none
def isInt (P : Program) (t : TypeId) : Bool := match P.underlying t with
  | some (.int _) => true
  | _ => false
def xAppend (P : Program) (H : Hp) (n : Nat) (ts : Array TypeId) (args : List AV) : Option (AV × Hp × Nat) :=
  match ts.toList, args with
  | [st, xt], [s, x] => match sliceElem P st with
    | none => none
    | some e => match elemZero P e with
      | none => none
      | some (i, zs) => bif isInt P xt then xAppZeros H n e i.size i.bytes zs s x else match xSrc P (hv H) (some xt) i.size x with
        | some (k, vs) => xAppTo H n e i.size i.bytes s k vs
        | none => none
  | _, _ => none
theorem into_eff (M : Mem w0 out G ρ (hv H) n w) {b o j len k at_ : Nat} {c : Option Nat} {l vs : List AV} {e : Nat} {x : TypeId × Bool} {r : AV × Hp × Nat} (h : xInto H n b o j len k at_ c l e x vs = some r) (hb : hv H b = some (.cells l e x)) (hvs : AV.wfs ρ n vs) (h1 : vs.all AV.single = true)
    (hwf : AV.wf ρ n (.slc b o o j (len + k) c)) {res : Result Next}
    (hres : ∀ w', (storeCells ⟨(ρ b).blk, (ρ b).base + at_, none⟩ (vs.map (AV.conc ρ))).run P w = .ok () w' → res = .ok (.value ((AV.slc b o o j (len + k) c).conc ρ)) w') : Eff w0 out G ρ n r res := by
  unfold xInto at h
  split at h
  · rename_i l' hs
    by_cases hb1 : Nat.blt (b + 1) 1048576 = true
    · rw [hb1] at h
      cases h
      obtain ⟨w', hrun, hM⟩ := M.splice (P := P) hb hs hvs h1 (by simpa [Nat.blt_eq] using hb1)
      exact ⟨ρ, w', .inl (hres w' hrun), hM, fun _ _ => rfl, hwf, Nat.le_refl _⟩
    · rw [Bool.eq_false_iff.2 hb1] at h; cases h
  · cases h
theorem append_room_run {t tx ty e : TypeId} {i : TypeInfo} (ht : P.underlying t = some (.slice e)) (hi : P.info? e = some i) (b off sLen sCap : Nat) (x : Value) (k : Nat) (news : List Value) (hs : Src P i.size tx x k news w) (hroom : sLen + k ≤ sCap) {w' : World}
    (hst : (storeCells ⟨b, off + sLen * i.size, none⟩ news).run P w = .ok () w') :
    (Builtin.append_ #[t, tx] ty #[.slice (some ⟨b, off, none⟩) sLen sCap, x]).run P w = .ok (.slice (some ⟨b, off, none⟩) (sLen + k) sCap) w' := by
  rcases hs.kind with ⟨e', hk⟩ | hk <;> simp [Builtin.append_, run_underlying ht, run_underlying hk, sizeOf, typeInfo, hi, hs.len, hroom, hs.cells, add_off, hst]
theorem append_grow_run (M : Mem w0 out G ρ (hv H) n w) {t tx ty e : TypeId} {i : TypeInfo} {z : Value} (ht : P.underlying t = some (.slice e)) (hi : P.info? e = some i) (hz : i.zero = some z) (hzs : z.cells.size = i.size) {base : Option Addr} {len cap k : Nat} {l vs : List AV} {x : Value} (hl : AV.wfs ρ n l) (hvs : AV.wfs ρ n vs)
    (hold : (Builtin.firstCells i.size len (.slice base len cap)).run P w.drew = .ok (l.map (AV.conc ρ)).toArray w.drew) (hs : Src P i.size tx x k (vs.map (AV.conc ρ)) w) (hg : cap < len + k) {r : AV × Hp × Nat} (h : xGrow H n e i.size i.bytes (some l) len k vs = some r) {res : Result Next}
    (hres : res = ((Builtin.append_ #[t, tx] ty #[.slice base len cap, x]).run P w).andThen fun v w' => .ok (.value v) w') : Eff w0 out G ρ n r res := by
  have hb : (len + k) * i.bytes ≤ 16777216 ∧ len + k ≤ 16777216 := by
    unfold xGrow at h
    dsimp only at h
    cases hb : (Nat.blt (n + 1) 1048576 && Nat.ble ((len + k) * i.bytes) 16777216 && Nat.ble (len + k) 16777216 && (l ++ vs).length.beq ((len + k) * i.size)) with
    | false => rw [hb] at h; cases h
    | true => simp only [Bool.and_eq_true, Nat.ble_eq] at hb; exact ⟨hb.1.1.2, hb.1.2⟩
  have hrun := run_append_grow_src (P := P) w t tx ty e i z ht hi hz base len cap (l.map (AV.conc ρ)) hold x k (vs.map (AV.conc ρ)) hs hg (by omega) (growslice_fits hg (by omega))
  refine grow_eff M h hl hvs (grownCap_ge w (len + k) cap e) (rest := Builtin.zeroCells z.cells (grownCap w (len + k) cap e - (len + k))) (by rw [size_zeroCells, hzs]) (w' := w.drew.alloc (.cells ((l.map (AV.conc ρ) ++ vs.map (AV.conc ρ)).toArray ++ Builtin.zeroCells z.cells (grownCap w (len + k) cap e - (len + k))) e)) (by rw [List.map_append]; rfl) ?_
  rw [hres, hrun]
  rfl
theorem tail_eff (M : Mem w0 out G ρ (hv H) n w) {t tx ty e : TypeId} {i : TypeInfo} {z : Value} (ht : P.underlying t = some (.slice e)) (hi : P.info? e = some i) (hz : i.zero = some z) (hzs : z.cells.size = i.size) (hpos : 0 < i.size) {b o j len k : Nat} {l vs : List AV} {x : Value} (hvs : AV.wfs ρ n vs) (h1 : vs.all AV.single = true)
    {x' : TypeId × Bool} (hb : hv H b = some (.cells l i.size x')) (hxe : x'.1 = e) (ho : o = j * i.size) (ho0 : o = 0) (hend : o + len * i.size = l.length) (hlen : vs.length = k * i.size) (hs : Src P i.size tx x k (vs.map (AV.conc ρ)) w) (hx : AV.wf ρ n (.slc b o o j len none)) (hby : (len + k) * i.bytes ≤ 16777216) (hk : len + k ≤ 16777216)
    {r : AV × Hp × Nat} (h : xTail H n b o len k l i.size x' vs = some r) {res : Result Next}
    (hres : res = ((Builtin.append_ #[t, tx] ty #[(AV.slc b o o j len none).conc ρ, x]).run P w).andThen fun v w' => .ok (.value v) w') : Eff w0 out G ρ n r res := by
  have hrow := M.obj b _ hb
  obtain ⟨⟨c, t0, hc, hcell, hle, hsz, ht0, hbase, _⟩, hwl⟩ := hrow
  have hjl : j + len ≤ (ρ b).room := hx.2.1 rfl
  have hdrop : AV.wfs ρ n (l.drop o) := (wfs_iff ρ n _).2 fun v hv => (wfs_iff ρ n l).1 hwl v (List.mem_of_mem_drop hv)
  have hdl : (l.drop o).length = len * i.size := by simp; omega
  have hn : n + 1 < 1048576 ∧ b + 1 < 1048576 := by
    unfold xTail at h
    cases hb : (Nat.blt (n + 1) 1048576 && Nat.blt (b + 1) 1048576) with
    | false => rw [hb] at h; cases h
    | true => simpa [Nat.blt_eq] using hb
  have hr : r = (.slc n 0 0 0 (len + k) none, Tr.set 20 (Tr.set 20 H b none) n (some (.cells (l.drop o ++ vs) i.size (x'.1, false))), n + 1) := by
    unfold xTail at h
    rw [show (Nat.blt (n + 1) 1048576 && Nat.blt (b + 1) 1048576) = true from by simp [Nat.blt_eq, hn]] at h
    cases h; rfl
  by_cases hroom : len + k ≤ (ρ b).room - j
  · -- there is room behind
    have e1 : (j + (len + k)) * i.size ≤ (ρ b).room * i.size := Nat.mul_le_mul_right _ (by omega)
    have e2 : (j + (len + k)) * i.size = j * i.size + len * i.size + k * i.size := by rw [Nat.add_mul, Nat.add_mul]; omega
    have e3 : ((ρ b).room - j) * i.size = (ρ b).room * i.size - j * i.size := Nat.sub_mul _ _ _
    have hfit : (ρ b).base + (o + len * i.size) + 0 + (vs.map (AV.conc ρ)).length ≤ c.size := by simp; omega
    have hrun := run_storeCells_at (P := P) (ρ b).blk ((ρ b).base + (o + len * i.size)) t0 (vs.map (AV.conc ρ)) 0 c w hc hfit (all_one h1)
    rw [Nat.add_zero] at hrun hfit
    have happ := append_room_run (P := P) (ty := ty) ht hi (ρ b).blk ((ρ b).base + o) len ((ρ b).room - j) x k (vs.map (AV.conc ρ)) hs hroom (by rw [Nat.add_assoc]; exact hrun)
    subst hr
    generalize hrow' : (c.toList.take ((ρ b).base + (o + len * i.size)) ++ vs.map (AV.conc ρ) ++ c.toList.drop ((ρ b).base + (o + len * i.size) + (vs.map (AV.conc ρ)).length)).toArray = row at hrun happ
    have hcs : row.size = c.size := by rw [← hrow']; exact row_size hfit
    have hρ : ∀ q, q < n → upd ρ n ⟨(ρ b).blk, (ρ b).base + o, (ρ b).room - j⟩ q = ρ q := fun q hq => upd_other _ _ (by omega)
    have hlv : AV.wfs ρ n (l.drop o ++ vs) := (wfs_iff ρ n _).2 fun v hv => by
      rcases List.mem_append.1 hv with hv | hv
      · exact (wfs_iff ρ n _).1 hdrop v hv
      · exact (wfs_iff ρ n _).1 hvs v hv
    have hok : ObjOk (upd ρ n ⟨(ρ b).blk, (ρ b).base + o, (ρ b).room - j⟩) (w.setRow (ρ b).blk row) n (.cells (l.drop o ++ vs) i.size (x'.1, false)) := by
      refine ⟨row, t0, by rw [upd_same]; exact setRow_heap w _ c _ t0 (0, 0) hc, fun q v hv => ?_, ?_, ?_, ht0, by rw [upd_same]; show (ρ b).base + o = 0; omega, fun e => by cases e⟩
      · rw [upd_same, conc_ext hρ v ((wfs_iff ρ n _).1 hlv v (List.mem_of_getElem? hv))]
        show row[(ρ b).base + o + q]? = _
        rw [← hrow', List.getElem?_toArray]
        by_cases hq : q < len * i.size
        · rw [List.getElem?_append_left (by rw [hdl]; exact hq), List.getElem?_drop] at hv
          rw [List.append_assoc, List.getElem?_append_left (by simp; omega), List.getElem?_take, if_pos (by omega), Array.getElem?_toList, Nat.add_assoc]
          exact hcell _ v hv
        · rw [List.getElem?_append_right (by rw [hdl]; omega), hdl] at hv
          have hql := (List.getElem?_eq_some_iff.1 hv).1
          rw [List.append_assoc, List.getElem?_append_right (by simp; omega)]
          have e : (ρ b).base + o + q - (c.toList.take ((ρ b).base + (o + len * i.size))).length = q - len * i.size := by simp; omega
          rw [e, List.getElem?_append_left (by simpa using hql), List.getElem?_map, hv]
          rfl
      · rw [upd_same]
        show _ ≤ ((ρ b).room - j) * i.size
        rw [List.length_append, hdl, hlen, e3]; omega
      · rw [upd_same]
        show (ρ b).base + o + ((ρ b).room - j) * i.size ≤ row.size
        rw [hcs, e3]; omega
    obtain ⟨g1, g2⟩ := M.move hb (sp := ⟨(ρ b).blk, (ρ b).base + o, (ρ b).room - j⟩) rfl (fun q hq => setRow_other w _ q _ hq) (size_setRow _ _ _) hok (wfs_ext hρ (by omega) _ hlv)
    refine ⟨_, w.setRow (ρ b).blk row, .inl ?_, ?_, g2, ?_, by show n ≤ n + 1; omega⟩
    · rw [hres]
      simp only [AV.conc, capOf, ite_self, happ, Result.andThen_ok, upd_same, Nat.add_zero, Nat.sub_zero]
    · show Mem w0 out G _ (hv (Tr.set 20 (Tr.set 20 H b none) n _)) _ _
      rw [hv_set _ n _ hn.1, hv_set H b _ hn.2]
      exact g1
    · simp only [AV.wf]
      exact ⟨by omega, fun _ => by rw [upd_same]; show 0 + (len + k) ≤ (ρ b).room - j; omega, fun q e => (by cases e)⟩
  · -- there is none
    have M' := M.drop b
    rw [← hv_set H b none hn.2] at M'
    have hold : (Builtin.firstCells i.size len (.slice (some ⟨(ρ b).blk, (ρ b).base + o, none⟩) len ((ρ b).room - j))).run P w.drew = .ok ((l.drop o).map (AV.conc ρ)).toArray w.drew := by
      refine run_firstCells_some w.drew i.size len _ len _ _ (by rw [List.length_map, hdl]) (fun q u hq => ?_)
      rw [List.getElem?_map] at hq
      obtain ⟨v, hv, rfl⟩ := Option.map_eq_some_iff.1 hq
      rw [List.getElem?_drop] at hv
      rw [add_off, Nat.add_assoc]
      have := hcell _ v hv
      show World.cell? w _ = _
      simp [World.cell?, hc, this]
    refine append_grow_run (P := P) M' ht hi hz hzs hdrop hvs (tx := tx) (ty := ty) (base := some ⟨(ρ b).blk, (ρ b).base + o, none⟩) (len := len) (cap := (ρ b).room - j) (k := k) (x := x) hold hs (by omega) (r := r) ?_ ?_
    · unfold xGrow
      dsimp only
      rw [show (Nat.blt (n + 1) 1048576 && Nat.ble ((len + k) * i.bytes) 16777216 && Nat.ble (len + k) 16777216 && (l.drop o ++ vs).length.beq ((len + k) * i.size)) = true from by
        have : (l.drop o ++ vs).length = (len + k) * i.size := by rw [List.length_append, hdl, hlen, Nat.add_mul]
        rw [this]
        simp [Nat.blt_eq, hn, hby, hk]]
      rw [hr, hxe]
      rfl
    · rw [hres]
      simp only [AV.conc, capOf, ite_self]
theorem zeros_eff (M : Mem w0 out G ρ (hv H) n w) {t tx ty e : TypeId} {kn : IntKind} {i : TypeInfo} {z : Value} {zs : List AV} (ht : P.underlying t = some (.slice e)) (hi : P.info? e = some i) (hz : i.zero = some z) (hz3 : zs.length = i.size) (hz4 : 0 < i.size) (hz5 : z.cells = ⟨zs.map (AV.conc ρ)⟩) (hz6 : AV.wfs ρ n zs)
    (hxi : P.underlying tx = some (.int kn)) {s x : AV} {r : AV × Hp × Nat} (h : xAppZeros H n e i.size i.bytes zs s x = some r) {res : Result Next} (hres : res = ((Builtin.append_ #[t, tx] ty #[s.conc ρ, x.conc ρ]).run P w).andThen fun v w' => .ok (.value v) w') : Eff w0 out G ρ n r res := by
  unfold xAppZeros at h
  split at h
  · rename_i kq k
    by_cases hk : k.beq 0 = true
    · rw [hk] at h
      have hk := Nat.eq_of_beq_eq_true hk
      subst hk
      cases h
      refine ⟨ρ, w, .inl ?_, M, fun _ _ => rfl, by simp only [AV.wf], Nat.le_refl _⟩
      have w0 : IntKind.i64.wrap (0 : Int) = 0 := by decide
      rw [hres]
      simp [AV.conc, Builtin.append_, run_underlying ht, run_underlying hxi, sizeOf, typeInfo, hi, asInt, asIntOf, w0]
    · rw [Bool.eq_false_iff.2 hk] at h
      simp only [cond_false] at h
      have hk : 0 < k := by
        rcases Nat.eq_zero_or_pos k with e | e
        · exact absurd (by rw [e]; rfl) hk
        · exact e
      have hb : (0 + k) * i.bytes ≤ 16777216 ∧ 0 + k ≤ 16777216 := by
        have h' := h
        unfold xGrow at h'
        dsimp only at h'
        cases hb : (Nat.blt (n + 1) 1048576 && Nat.ble ((0 + k) * i.bytes) 16777216 && Nat.ble (0 + k) 16777216 && ([] ++ repL k zs).length.beq ((0 + k) * i.size)) with
        | false => rw [hb] at h'; cases h'
        | true => simp only [Bool.and_eq_true, Nat.ble_eq] at hb; exact ⟨hb.1.1.2, hb.1.2⟩
      have hkb : k * i.bytes ≤ 16777216 := by have := hb.1; rwa [Nat.zero_add] at this
      have hrun := Lib.run_append_grow_zeros (P := P) w t tx ty e i z kq kn ht hxi hi hz none 0 0 [] (run_firstCells_none w.drew i.size 0 0 0) k hk hz4 (by omega) (by omega) (by omega) (growslice_fits (by omega) (by omega))
      have hzc : Builtin.zeroCells z.cells k = ⟨(repL k zs).map (AV.conc ρ)⟩ := by
        have := rep_array (ρ := ρ) zs k
        rw [← hz5] at this
        have hsz : z.cells.size = zs.length := by rw [hz5]; simp
        unfold Builtin.zeroCells
        rw [hsz]
        rw [hsz] at this
        exact this
      have hzs : z.cells.size = i.size := by rw [hz5]; simp [hz3]
      refine grow_eff M h (by simp only [AV.wfs]) ((wfs_iff ρ n _).2 fun v hv => (wfs_iff ρ n _).1 hz6 v (repL_mem hv)) (grownCap_ge w (0 + k) 0 e) (rest := Builtin.zeroCells z.cells (grownCap w (0 + k) 0 e - (0 + k))) (by rw [size_zeroCells, hzs]) (w' := w.drew.alloc (.cells ((⟨(repL k zs).map (AV.conc ρ)⟩ : Array Value) ++ Builtin.zeroCells z.cells (grownCap w (0 + k) 0 e - (0 + k))) e)) rfl ?_
      rw [hres]
      simp only [AV.conc, Int.ofNat_eq_natCast]
      rw [hrun, hzc]
      simp
  · cases h
theorem append_nothing (t tx ty e : TypeId) {i : TypeInfo} (ht : P.underlying t = some (.slice e)) (hi : P.info? e = some i) {base : Option Addr} {len cap : Nat} (hle : len ≤ cap) {x : Value} {news : List Value} (hs : Src P i.size tx x 0 news w) :
    (Builtin.append_ #[t, tx] ty #[.slice base len cap, x]).run P w = .ok (.slice base len cap) w := by
  have h0 : news = [] := List.length_eq_zero_iff.1 (by rw [hs.newsLen, Nat.zero_mul])
  subst h0
  exact run_append_nothing w t tx ty e i ht hi base len cap hle x hs
theorem xAppend_ok (M : Mem w0 out G ρ (hv H) n w) {ts : Array TypeId} {ty : TypeId} {args : List AV} {r : AV × Hp × Nat} (h : xAppend P H n ts args = some r) (hw : ∀ v ∈ args, v.wf ρ n) {res : Result Next}
    (hres : res = ((Builtin.append_ ts ty ⟨args.map (AV.conc ρ)⟩).run P w).andThen fun v w' => .ok (.value v) w') : Eff w0 out G ρ n r res := by
  unfold xAppend at h
  split at h
  · rename_i st xt s x hts
    have hts : ts = #[st, xt] := by apply Array.ext'; simpa using hts
    subst hts
    split at h
    · cases h
    · rename_i e he
      have ht := sliceElem_eq he
      split at h
      · cases h
      · rename_i i zs hz
        obtain ⟨z, hi, hz1, _, hz3, hz4, hz5, hz6⟩ := elemZero_eq hz
        have hzs : z.cells.size = i.size := by rw [hz5 ρ]; simp [hz3]
        cases hint : isInt P xt with
        | true =>
          rw [hint] at h
          simp only [cond_true] at h
          unfold isInt at hint
          split at hint
          · rename_i kn hxi
            rw [show (⟨[s, x].map (AV.conc ρ)⟩ : Array Value) = #[s.conc ρ, x.conc ρ] from rfl] at hres
            exact zeros_eff M ht hi hz1 hz3 hz4 (hz5 ρ) (hz6 ρ n) hxi h hres
          · cases hint
        | false =>
        rw [hint] at h
        simp only [cond_false] at h
        split at h
        · rename_i k vs hsrc
          obtain ⟨xt', hxt, hS, hvs, h1⟩ := xSrc_ok M hsrc
          cases hxt
          have hlen : vs.length = k * i.size := by have := hS.newsLen; simpa using this
          have hws : s.wf ρ n := hw s (by simp)
          rw [show (⟨[s, x].map (AV.conc ρ)⟩ : Array Value) = #[s.conc ρ, x.conc ρ] from rfl] at hres
          unfold xAppTo at h
          split at h
          · by_cases hk : k.beq 0 = true
            · rw [hk] at h
              have hk := Nat.eq_of_beq_eq_true hk
              subst hk
              cases h
              exact ⟨ρ, w, .inl (by rw [hres]; simp only [AV.conc]; rw [append_nothing st xt ty e ht hi (Nat.le_refl 0) hS]; rfl), M, fun _ _ => rfl, by simp only [AV.wf], Nat.le_refl _⟩
            · rw [Bool.eq_false_iff.2 hk] at h
              have hk : 0 < k := by
                rcases Nat.eq_zero_or_pos k with e | e
                · exact absurd (by rw [e]; rfl) hk
                · exact e
              exact append_grow_run M ht hi hz1 hzs (l := []) (tx := xt) (ty := ty) (base := none) (len := 0) (cap := 0) (by simp only [AV.wfs]) hvs (run_firstCells_none w.drew i.size 0 0 0) hS (by omega) h (by rw [hres]; rfl)
          · rename_i b o o' j len c
            by_cases hk : k.beq 0 = true
            · rw [hk] at h
              have hk := Nat.eq_of_beq_eq_true hk
              subst hk
              cases h
              have hle : len ≤ capOf ρ b j c := by
                cases c with
                | none => have := hws.2.1 rfl; simp only [capOf]; omega
                | some q => exact hws.2.2 q rfl
              exact ⟨ρ, w, .inl (by rw [hres]; simp only [AV.conc]; rw [append_nothing st xt ty e ht hi hle hS]; rfl), M, fun _ _ => rfl, hws, Nat.le_refl _⟩
            · rw [Bool.eq_false_iff.2 hk] at h
              simp only [cond_false] at h
              split at h
              · rename_i l e2 x2 hb
                obtain ⟨hrow, hwl⟩ := M.obj b _ hb
                unfold xAppSlc at h
                split at h
                · rename_i q
                  by_cases hq : Nat.ble (len + k) q = true
                  · rw [hq] at h
                    by_cases ho : o.beq o' = true
                    · rw [ho] at h
                      have ho := Nat.eq_of_beq_eq_true ho
                      subst ho
                      have hq : len + k ≤ q := by simpa using hq
                      refine into_eff (P := P) M h hb hvs h1 (by simp only [AV.wf]; exact ⟨hws.1, fun e => (by cases e), fun q' e => (by cases e; exact hq)⟩) (fun w' hst => ?_)
                      rw [hres]
                      simp only [AV.conc, ite_self, capOf]
                      rw [append_room_run (ty := ty) ht hi _ _ len q _ k _ hS hq (by rw [Nat.add_assoc]; exact hst)]
                      rfl
                    · rw [Bool.eq_false_iff.2 ho] at h; cases h
                  · rw [Bool.eq_false_iff.2 hq] at h
                    have hq : ¬ len + k ≤ q := by simpa using hq
                    by_cases ho : o.beq o' = true
                    · rw [ho] at h
                      have ho := Nat.eq_of_beq_eq_true ho
                      subst ho
                      simp only [cond_false, cond_true] at h
                      cases htk : takeN (len * i.size) (l.drop o) with
                      | none => rw [htk] at h; cases h
                      | some l' =>
                        rw [htk] at h
                        obtain ⟨g1, rfl⟩ := takeN_eq htk
                        have hlen' : ((l.drop o).take (len * i.size)).length = len * i.size := by simp at g1 ⊢; omega
                        refine append_grow_run M ht hi hz1 hzs (l := (l.drop o).take (len * i.size)) (tx := xt) (ty := ty) (base := some ⟨(ρ b).blk, (ρ b).base + o, none⟩) (len := len) (cap := q) ((wfs_iff ρ n _).2 fun v hv => (wfs_iff ρ n l).1 hwl v (List.mem_of_mem_drop (List.mem_of_mem_take hv))) hvs ?_ hS (by omega) h (by rw [hres]; simp only [AV.conc, ite_self, capOf])
                        refine run_firstCells_some w.drew i.size len _ len _ _ (by rw [List.length_map, hlen']) (fun q' u hq' => ?_)
                        rw [List.getElem?_map] at hq'
                        obtain ⟨v, hv, rfl⟩ := Option.map_eq_some_iff.1 hq'
                        rw [add_off, Nat.add_assoc]
                        have hat : CellsAt ρ w b o ((l.drop o).take (len * i.size)) := M.cellsAt hb o _ fun i v hi => by
                          rw [List.getElem?_take] at hi
                          split at hi
                          · rwa [List.getElem?_drop] at hi
                          · cases hi
                        exact hat q' v hv
                    · rw [Bool.eq_false_iff.2 ho] at h
                      simp only [cond_false] at h
                      by_cases hl0 : len.beq 0 = true
                      · rw [hl0] at h
                        have hl0 := Nat.eq_of_beq_eq_true hl0
                        subst hl0
                        exact append_grow_run M ht hi hz1 hzs (l := []) (tx := xt) (ty := ty) (base := some ⟨(ρ b).blk, (ρ b).base + (if (ρ b).room = j then o else o'), none⟩) (len := 0) (cap := q) (by simp only [AV.wfs]) hvs (run_firstCells_some w.drew i.size 0 _ 0 _ [] (by simp) (fun q' u hq' => by simp at hq')) hS (by omega) h (by rw [hres]; simp only [AV.conc, capOf])
                      · rw [Bool.eq_false_iff.2 hl0] at h; cases h
                · cases hoe : (o.beq o' && e2.beq i.size) with
                  | false => rw [hoe] at h; cases h
                  | true =>
                    rw [hoe] at h
                    rw [Bool.and_eq_true] at hoe
                    have ho := Nat.eq_of_beq_eq_true hoe.1
                    have he2 := Nat.eq_of_beq_eq_true hoe.2
                    subst ho
                    subst he2
                    simp only [cond_true] at h
                    obtain ⟨c', t', hc', hcell, hle, hsz, _⟩ := hrow
                    by_cases hr : Nat.ble ((j + len + k) * i.size) l.length = true
                    · rw [hr] at h
                      have hr : (j + len + k) * i.size ≤ l.length := by simpa using hr
                      have hroom : j + len + k ≤ (ρ b).room := Nat.le_of_mul_le_mul_right (Nat.le_trans hr hle) hz4
                      refine into_eff (P := P) M h hb hvs h1 (by simp only [AV.wf]; exact ⟨hws.1, fun _ => by omega, fun q' e => (by cases e)⟩) (fun w' hst => ?_)
                      rw [hres]
                      simp only [AV.conc, ite_self, capOf]
                      rw [append_room_run (ty := ty) ht hi _ _ len ((ρ b).room - j) _ k _ hS (by omega) (by rw [Nat.add_assoc]; exact hst)]
                      rfl
                    · rw [Bool.eq_false_iff.2 hr] at h
                      simp only [cond_false] at h
                      cases hcs : (o.beq 0 && j.beq 0 && x2.1.beq e && (o + len * i.size).beq l.length && Nat.ble ((len + k) * i.bytes) 16777216 && Nat.ble (len + k) 16777216 && vs.length.beq (k * i.size)) with
                      | false => rw [hcs] at h; cases h
                      | true =>
                        rw [hcs] at h
                        simp only [Bool.and_eq_true, Nat.ble_eq] at hcs
                        obtain ⟨⟨⟨⟨⟨⟨c1, c1j⟩, c1x⟩, c2⟩, c3⟩, c4⟩, c5⟩ := hcs
                        have c1 := Nat.eq_of_beq_eq_true c1
                        have c1j := Nat.eq_of_beq_eq_true c1j
                        have c1x := Nat.eq_of_beq_eq_true c1x
                        exact tail_eff M ht hi hz1 hzs hz4 (tx := xt) (ty := ty) hvs h1 hb c1x (by rw [c1j, c1, Nat.zero_mul]) c1 (Nat.eq_of_beq_eq_true c2) (Nat.eq_of_beq_eq_true c5) hS hws c3 c4 h hres
              · cases h
          · cases h
        · cases h
  · cases h
end
end
end Cx
end Go.Proofs.YtcpkihikmpkdnaaGreatDoor
