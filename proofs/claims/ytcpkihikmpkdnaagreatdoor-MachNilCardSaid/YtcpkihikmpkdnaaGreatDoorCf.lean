/- A verified executor of closed calls, part 6: operations that make memory, and that write it. -/
import Derived.Test.YtcpkihikmpkdnaaGreatDoorCe
import Derived.Great.BuildSlice
import Derived.Laws.MakeOwn
set_option linter.unusedVariables false
set_option linter.unusedSimpArgs false
namespace Go.Proofs.YtcpkihikmpkdnaaGreatDoor
namespace Cx
noncomputable section
def hv (H : Hp) : Hv := fun b => Tr.get 20 H b
theorem hv_set (H : Hp) (k : Nat) (x : Option AO) (hk : k + 1 < 1048576) : hv (Tr.set 20 H k x) = upd (hv H) k x := by
  funext b
  unfold hv upd
  rw [Tr.get_set 20 H k b x hk]
/-- what an operation with an effect leaves -/
def Eff (w0 : World) (out : Nat → Prop) (G : Nat) (ρ : Env) (n : Nat) (r : AV × Hp × Nat) (res : Result Next) : Prop :=
  ∃ ρ' w', (res = .ok (.value (r.1.conc ρ')) w' ∨ (res = .ok .skip w' ∧ r.1 = .lit undef)) ∧ Mem w0 out G ρ' (hv r.2.1) r.2.2 w' ∧ (∀ b, b < n → ρ' b = ρ b) ∧ r.1.wf ρ' r.2.2 ∧ n ≤ r.2.2
section
variable {P : Program} {w0 : World} {out : Nat → Prop} {G : Nat} {ρ : Env} {H : Hp} {n : Nat} {w : World}
/-- a new row -/
def xRow (H : Hp) (n : Nat) (l : List AV) (e : Nat) (x : TypeId × Bool) (v : AV) : Option (AV × Hp × Nat) :=
  bif Nat.blt (n + 1) 1048576 then some (v, Tr.set 20 H n (some (.cells l e x)), n + 1) else none
theorem xRow_ok (M : Mem w0 out G ρ (hv H) n w) {l : List AV} {e room : Nat} {x : TypeId × Bool} {v : AV} {r : AV × Hp × Nat} (hx : xRow H n l e x v = some r) (hl : AV.wfs ρ n l) (hlen : l.length = room * e) (t : TypeId) (hxt : t = x.1) {c : Array Value} (hc : c = ⟨l.map (AV.conc ρ)⟩)
    (hv' : v.wf (upd ρ n ⟨w.heap.size, 0, room⟩) (n + 1)) {res : Result Next} (hres : res = .ok (.value (v.conc (upd ρ n ⟨w.heap.size, 0, room⟩))) (w.alloc (.cells c t))) : Eff w0 out G ρ n r res := by
  unfold xRow at hx
  by_cases hb : Nat.blt (n + 1) 1048576 = true
  · rw [hb] at hx
    cases hx
    have hb' : n + 1 < 1048576 := by simpa [Nat.blt_eq] using hb
    have hρ : ∀ b, b < n → upd ρ n ⟨w.heap.size, 0, room⟩ b = ρ b := fun b hb => upd_other _ _ (by omega)
    have hw' : (w.alloc (.cells c t)).heap = w.heap.push (.cells c t) := rfl
    have hok : ObjOk (upd ρ n ⟨w.heap.size, 0, room⟩) (w.alloc (.cells c t)) n (.cells l e x) := by
      refine ⟨c, t, by rw [upd_same, hw', Array.getElem?_push]; simp, fun i u hu => ?_, by rw [upd_same]; show l.length ≤ room * e; omega, by rw [upd_same, hc]; show 0 + room * e ≤ _; simp; omega, hxt, by rw [upd_same], fun _ => by rw [hc]; simp⟩
      rw [upd_same, hc, Nat.zero_add]
      rw [conc_ext hρ u ((wfs_iff ρ n l).1 hl u (List.mem_of_getElem? hu))]
      simp [hu]
    obtain ⟨h1, h2⟩ := M.new (sp := ⟨w.heap.size, 0, room⟩) rfl hw' hok (wfs_ext hρ (by omega) l hl)
    refine ⟨_, _, .inl hres, ?_, h2, hv', by show n ≤ n + 1; omega⟩
    show Mem w0 out G _ (hv (Tr.set 20 H n _)) _ _
    rw [hv_set H n _ hb']
    exact h1
  · rw [Bool.eq_false_iff.2 hb] at hx; cases hx
theorem run_newRow (w : World) (t : TypeId) (c : Array Value) : (newRow t c).run P w = .ok ⟨w.heap.size, 0, none⟩ (w.alloc (.cells c t)) := rfl
def xAlloc (P : Program) (H : Hp) (n : Nat) (t : TypeId) : Option (AV × Hp × Nat) :=
  match aZero P t with
  | some z => xRow H n z.cells z.cells.length (t, true) (.ptr n 0)
  | none => none
theorem xAlloc_ok (M : Mem w0 out G ρ (hv H) n w) {t : TypeId} {r : AV × Hp × Nat} (h : xAlloc P H n t = some r) {a : Act} {o : Oper} (ho : o.op = .alloc t) : Eff w0 out G ρ n r ((execOp a.eval o).run P w) := by
  unfold xAlloc at h
  split at h
  · rename_i z hz
    obtain ⟨hzp, hzw⟩ := zero_plain hz
    refine xRow_ok M (room := 1) h (wf_cells (hzw ρ n)) (by omega) t rfl rfl (by simp only [AV.wf]; omega) ?_
    simp only [execOp, ho, Sem.run_bind, Instr.alloc, run_zero (ρ := ρ) hz w, Result.andThen_ok, newVar, conc_cells ρ hzp, run_newRow, rp, AV.conc, upd_same]
  · cases h
def xBox (H : Hp) (n : Nat) (t : TypeId) (x : AV) : Option (AV × Hp × Nat) :=
  bif x.plain then xRow H n x.cells x.cells.length (t, true) (.ptr n 0) else none
theorem xBox_ok (M : Mem w0 out G ρ (hv H) n w) {t : TypeId} {x : AV} {r : AV × Hp × Nat} (h : xBox H n t x = some r) (hx : x.wf ρ n) {a : Act} {o : Oper} {xo : Operand} (ho : o.op = .box t xo) (he : a.eval xo = x.conc ρ) : Eff w0 out G ρ n r ((execOp a.eval o).run P w) := by
  unfold xBox at h
  cases hp : x.plain with
  | false => rw [hp] at h; cases h
  | true =>
    rw [hp] at h
    refine xRow_ok M (room := 1) h (wf_cells hx) (by omega) t rfl rfl (by simp only [AV.wf]; omega) ?_
    simp only [execOp, ho, Sem.run_bind, Instr.box, Result.andThen_ok, newVar, he, conc_cells ρ hp, run_newRow, rp, AV.conc, upd_same]
/-- some cells, so many times -/
def repL {α : Type} : Nat → List α → List α
  | 0, _ => []
  | k + 1, l => l ++ repL k l
theorem repL_len {α : Type} (l : List α) : ∀ k, (repL k l).length = k * l.length
  | 0 => by simp [repL]
  | k + 1 => by simp [repL, repL_len l k, Nat.succ_mul]; omega
theorem repL_mem {α : Type} {l : List α} {x : α} : ∀ {k}, x ∈ repL k l → x ∈ l
  | 0, h => by cases h
  | k + 1, h => by
    rcases List.mem_append.1 h with h | h
    · exact h
    · exact repL_mem h
theorem repL_get {α : Type} (l : List α) : ∀ (k i : Nat), i < k * l.length → (repL k l)[i]? = l[i % l.length]?
  | 0, i, h => by omega
  | k + 1, i, h => by
    simp only [repL]
    by_cases hi : i < l.length
    · rw [List.getElem?_append_left hi, Nat.mod_eq_of_lt hi]
    · have hpos : 0 < l.length := by
        rcases Nat.eq_zero_or_pos l.length with e | e
        · rw [e] at h; omega
        · exact e
      rw [List.getElem?_append_right (by omega), repL_get l k (i - l.length) (by rw [Nat.succ_mul] at h; omega)]
      congr 1
      rw [← Nat.mod_eq_sub_mod (by omega)]
theorem rep_array {ρ : Env} (l : List AV) (k : Nat) : (Array.range (k * l.length)).map ((⟨l.map (AV.conc ρ)⟩ : Array Value)[· % (⟨l.map (AV.conc ρ)⟩ : Array Value).size]!) = ⟨(repL k l).map (AV.conc ρ)⟩ := by
  apply Array.ext
  · simp [repL_len]
  · intro i h1 h2
    have hi : i < k * l.length := by simpa using h1
    have hg := repL_get l k i hi
    have hpos : 0 < l.length := by
      rcases Nat.eq_zero_or_pos l.length with e | e
      · rw [e] at hi; omega
      · exact e
    have hm : i % l.length < l.length := Nat.mod_lt _ hpos
    rw [List.getElem?_eq_getElem (by rw [repL_len]; exact hi), List.getElem?_eq_getElem hm] at hg
    simp only [Option.some.injEq] at hg
    simp [hg, hm]
def sliceElem (P : Program) (t : TypeId) : Option TypeId := match P.underlying t with
  | some (.slice e) => some e
  | _ => none
theorem sliceElem_eq {t e : TypeId} (h : sliceElem P t = some e) : P.underlying t = some (.slice e) := by
  unfold sliceElem at h
  split at h
  · cases h; assumption
  · cases h
/-- an element type: its size, its zero's cells (as many) -/
def elemZero (P : Program) (e : TypeId) : Option (TypeInfo × List AV) := match P.info? e with
  | some i => match i.zero with
    | some z => bif (litAgg z).cells.length.beq i.size && Nat.blt 0 i.size then some (i, (litAgg z).cells) else none
    | none => none
  | none => none
theorem elemZero_eq {e : TypeId} {i : TypeInfo} {zs : List AV} (h : elemZero P e = some (i, zs)) : ∃ z, P.info? e = some i ∧ i.zero = some z ∧ zs = (litAgg z).cells ∧ zs.length = i.size ∧ 0 < i.size ∧ (∀ ρ, z.cells = ⟨zs.map (AV.conc ρ)⟩) ∧ ∀ ρ n, AV.wfs ρ n zs := by
  unfold elemZero at h
  split at h
  · rename_i i' hi
    split at h
    · rename_i z hz
      cases hb : ((litAgg z).cells.length.beq i'.size && Nat.blt 0 i'.size) with
      | false => rw [hb] at h; cases h
      | true =>
        rw [hb] at h
        cases h
        rw [Bool.and_eq_true] at hb
        refine ⟨z, hi, hz, rfl, Nat.eq_of_beq_eq_true hb.1, by simpa [Nat.blt_eq] using hb.2, fun ρ => ?_, fun ρ n => wf_cells (wf_litAgg ρ n z)⟩
        rw [← conc_cells ρ (plain_litAgg z), conc_litAgg]
    · cases h
  · cases h
def xBuildSlice (P : Program) (H : Hp) (n : Nat) (t : TypeId) (len : Nat) (ps : List (Nat × AV)) : Option (AV × Hp × Nat) :=
  match sliceElem P t with
  | none => none
  | some e => match elemZero P e with
    | none => none
    | some (i, zs) => bif len.beq 0 && ps.isEmpty then xRow H n [] i.size (e, true) (.slc n 0 0 0 0 (some 0)) else bif Nat.blt 0 len && Nat.ble (len * i.size) 16777216 then (match xFill (fun k => some (k * i.size, i.size)) (repL len zs) ps with
      | some l => xRow H n l i.size (e, true) (.slc n 0 0 0 len (some len))
      | none => none) else none
theorem xBuildSlice_ok (M : Mem w0 out G ρ (hv H) n w) {t : TypeId} {len : Nat} {ps : List (Nat × AV)} {r : AV × Hp × Nat} (h : xBuildSlice P H n t len ps = some r) (hp : ∀ p ∈ ps, p.2.wf ρ n) {res : Result Next}
    (hres : res = ((Instr.buildSlice t len ⟨ps.map fun p => (p.1, p.2.conc ρ)⟩).run P w).andThen fun v w' => .ok (.value v) w') : Eff w0 out G ρ n r res := by
  unfold xBuildSlice at h
  split at h
  · cases h
  · rename_i e he
    have hu := sliceElem_eq he
    split at h
    · cases h
    · rename_i i zs hz
      obtain ⟨z, hi, hz1, rfl, hz3, hz4, hz5, hz6⟩ := elemZero_eq hz
      cases hb0 : (len.beq 0 && ps.isEmpty) with
      | true =>
        rw [hb0] at h
        rw [Bool.and_eq_true] at hb0
        have hl0 := Nat.eq_of_beq_eq_true hb0.1
        have hp0 : ps = [] := by simpa using hb0.2
        subst hl0
        subst hp0
        refine xRow_ok M (room := 0) h (by simp only [AV.wfs]) (by simp) e rfl rfl ?_ ?_
        · simp only [AV.wf]
          exact ⟨by omega, fun e => (by cases e), fun k e => (by cases e; omega)⟩
        · rw [hres]
          simp [Instr.buildSlice, run_underlying hu, sizeOf, typeInfo, hi, Instr.fill, newRow, AV.conc, capOf, upd_same, Array.range_zero']
      | false =>
      rw [hb0] at h
      simp only [cond_false] at h
      cases hb : (Nat.blt 0 len && Nat.ble (len * i.size) 16777216) with
      | false => rw [hb] at h; cases h
      | true =>
        rw [hb] at h
        simp only [cond_true] at h
        rw [Bool.and_eq_true] at hb
        have hb1 : 0 < len := by simpa [Nat.blt_eq] using hb.1
        have hb2 : len * i.size ≤ 16777216 := by simpa using hb.2
        split at h
        · rename_i l hf
          obtain ⟨g1, g2, g3⟩ := xFill_ok (ρ := ρ) (n := n) hf ((wfs_iff ρ n _).2 fun v hv => (wfs_iff ρ n _).1 (hz6 ρ n) v (repL_mem hv)) hp
          have hlen : l.length = len * i.size := by rw [g3, repL_len, hz3]
          refine xRow_ok M (room := len) h g2 hlen e rfl rfl ?_ ?_
          · simp only [AV.wf]
            exact ⟨by omega, fun e => (by cases e), fun k e => (by cases e; omega)⟩
          · rw [hres]
            have hra := rep_array (ρ := ρ) (litAgg z).cells len
            rw [hz3, ← hz5 ρ] at hra
            rw [run_buildSlice w t e len _ ⟨l.map (AV.conc ρ)⟩ i z hu hi hz1 (by omega) (by have := Nat.mul_pos hb1 hz4; omega) (by rw [hra]; exact g1)]
            simp [AV.conc, capOf, upd_same]
        · cases h
def xMakeSlice (P : Program) (H : Hp) (n : Nat) (t : TypeId) (l c : AV) : Option (AV × Hp × Nat) :=
  match sliceElem P t with
  | none => none
  | some e => match elemZero P e, optNat (some l), optNat (some c) with
    | some (i, zs), some (some l), some (some c) => bif Nat.ble l c && Nat.ble (c * i.size) 16777216 && Nat.ble (c * i.bytes) 16777216 && Nat.ble c 16777216 then xRow H n (repL c zs) i.size (e, true) (.slc n 0 0 0 l (some c)) else none
    | _, _, _ => none
theorem xMakeSlice_ok (M : Mem w0 out G ρ (hv H) n w) {t : TypeId} {l c : AV} {r : AV × Hp × Nat} (h : xMakeSlice P H n t l c = some r) {res : Result Next}
    (hres : res = ((Instr.makeSlice t (l.conc ρ) (c.conc ρ)).run P w).andThen fun v w' => .ok (.value v) w') : Eff w0 out G ρ n r res := by
  unfold xMakeSlice at h
  split at h
  · cases h
  · rename_i e he
    have hu := sliceElem_eq he
    split at h
    · rename_i i zs l' c' hz hl hc
      obtain ⟨z, hi, hz1, rfl, hz3, hz4, hz5, hz6⟩ := elemZero_eq hz
      obtain ⟨kl, el⟩ := optNat_eq (ρ := ρ) hl
      obtain ⟨kc, ec⟩ := optNat_eq (ρ := ρ) hc
      simp only [Option.map_some, Option.some.injEq] at el ec
      cases hb : (Nat.ble l' c' && Nat.ble (c' * i.size) 16777216 && Nat.ble (c' * i.bytes) 16777216 && Nat.ble c' 16777216) with
      | false => rw [hb] at h; cases h
      | true =>
        rw [hb] at h
        simp only [cond_true] at h
        simp only [Bool.and_eq_true, Nat.ble_eq] at hb
        obtain ⟨⟨⟨b1, b2⟩, b3⟩, b4⟩ := hb
        refine xRow_ok M (room := c') h ((wfs_iff ρ n _).2 fun v hv => (wfs_iff ρ n _).1 (hz6 ρ n) v (repL_mem hv)) (by rw [repL_len, hz3]) e rfl rfl ?_ ?_
        · simp only [AV.wf]
          exact ⟨by omega, fun e => (by cases e), fun k e => (by cases e; omega)⟩
        · rw [hres, el, ec]
          have hra := rep_array (ρ := ρ) (litAgg z).cells c'
          rw [hz3, ← hz5 ρ] at hra
          have hby : (i.bytes : Int) * (c' : Int) ≤ 281474976710656 := by
            have : ((i.bytes * c' : Nat) : Int) ≤ 281474976710656 := by rw [Nat.mul_comm]; omega
            simpa using this
          rw [run_makeSlice w t e i z hu hi hz1 kl kc (l' : Int) (c' : Int) (by omega) (by omega) (by simpa using b2) hby (by omega)]
          simp only [Int.toNat_natCast, Result.andThen_ok, AV.conc, capOf, upd_same, ite_self, Nat.add_zero]
          unfold madeCells
          rw [hra]
    · cases h
def xMakeMap (P : Program) (H : Hp) (n : Nat) (t : TypeId) (r : Option AV) : Option (AV × Hp × Nat) :=
  match r, P.underlying t with
  | none, _ => bif Nat.blt (n + 1) 1048576 then some (.mp n, Tr.set 20 H n (some (.map [] 0)), n + 1) else none
  | some (.lit (.int _ _)), some (.map _ _) => bif Nat.blt (n + 1) 1048576 then some (.mp n, Tr.set 20 H n (some (.map [] 0)), n + 1) else none
  | _, _ => none
theorem makeMap_eff (M : Mem w0 out G ρ (hv H) n w) {r : AV × Hp × Nat} (h : (bif Nat.blt (n + 1) 1048576 then some (AV.mp n, Tr.set 20 H n (some (.map [] 0)), n + 1) else none) = some r) {res : Result Next}
    (hres : res = .ok (.value (.map (some w.heap.size))) (w.alloc (.map #[] 0))) : Eff w0 out G ρ n r res := by
  by_cases hb : Nat.blt (n + 1) 1048576 = true
  · rw [hb] at h
    cases h
    have hb' : n + 1 < 1048576 := by simpa [Nat.blt_eq] using hb
    have hw' : (w.alloc (.map #[] 0)).heap = w.heap.push (.map #[] 0) := rfl
    obtain ⟨h1, h2⟩ := M.new (sp := ⟨w.heap.size, 0, 0⟩) (ao := .map [] 0) rfl hw' (by simp only [ObjOk]; rw [upd_same, hw', Array.getElem?_push]; simp) (fun x hx => by cases hx)
    refine ⟨_, w.alloc (.map #[] 0), .inl (hres.trans (by simp [AV.conc, upd_same])), ?_, h2, by simp only [AV.wf]; omega, by show n ≤ n + 1; omega⟩
    show Mem w0 out G _ (hv (Tr.set 20 H n _)) _ _
    rw [hv_set H n _ hb']
    exact h1
  · rw [Bool.eq_false_iff.2 hb] at h; cases h
theorem xMakeMap_ok (M : Mem w0 out G ρ (hv H) n w) {t : TypeId} {x : Option AV} {r : AV × Hp × Nat} (h : xMakeMap P H n t x = some r) {res : Result Next}
    (hres : res = ((Instr.makeMap t (x.map (AV.conc ρ))).run P w).andThen fun v w' => .ok (.value v) w') : Eff w0 out G ρ n r res := by
  unfold xMakeMap at h
  split at h
  · refine makeMap_eff M h (hres.trans ?_)
    rfl
  · rename_i k i kt et hu
    refine makeMap_eff M h (hres.trans ?_)
    simp only [Instr.makeMap, Option.map_some, AV.conc, Sem.run_bind, run_underlying hu, Result.andThen_ok, asInt, asIntOf, rp]
    rfl
  · cases h
/-! ### stores -/
def xStore (P : Program) (H : Hp) (n : Nat) (t : TypeId) (x v : AV) : Option (AV × Hp × Nat) :=
  match x with
  | .ptr b o => match hv H b, aSize P t with
    | some (.cells l e x), some k => bif v.plain && v.cells.length.beq k && v.cells.all AV.single && Nat.blt (b + 1) 1048576 then (match splice l o v.cells with
      | some l' => some (.lit undef, Tr.set 20 H b (some (.cells l' e x)), n)
      | none => none) else none
    | _, _ => none
  | _ => none
theorem all_one {vs : List AV} (h : vs.all AV.single = true) : ∀ u ∈ vs.map (AV.conc ρ), u.oneCell' = true := fun u hu => by
  obtain ⟨v, hv, rfl⟩ := List.mem_map.1 hu
  exact single_one (List.all_eq_true.1 h v hv)
theorem row_put {c : Array Value} {l vs l' : List AV} {base o : Nat} (h2 : ∀ (i : Nat) (v : AV), l[i]? = some v → c[base + i]? = some (v.conc ρ)) (hs : splice l o vs = some l') (hsz : base + o + vs.length ≤ c.size) :
    ∀ (i : Nat) (v : AV), l'[i]? = some v → (c.toList.take (base + o) ++ vs.map (AV.conc ρ) ++ c.toList.drop (base + o + (vs.map (AV.conc ρ)).length)).toArray[base + i]? = some (v.conc ρ) := by
  intro i v hv
  rw [splice_get hs] at hv
  rw [List.getElem?_toArray]
  by_cases h1 : i < o
  · rw [if_neg (by omega)] at hv
    rw [List.append_assoc, List.getElem?_append_left (by simp; omega), List.getElem?_take, if_pos (by omega), Array.getElem?_toList]
    exact h2 i v hv
  · by_cases h3 : i < o + vs.length
    · rw [if_pos ⟨by omega, h3⟩] at hv
      rw [List.append_assoc, List.getElem?_append_right (by simp; omega)]
      have e : base + i - (c.toList.take (base + o)).length = i - o := by simp; omega
      rw [e, List.getElem?_append_left (by simp; omega), List.getElem?_map, hv]
      rfl
    · rw [if_neg (by omega)] at hv
      rw [List.getElem?_append_right (by simp; omega), List.getElem?_drop, Array.getElem?_toList]
      have e : base + o + (vs.map (AV.conc ρ)).length + (base + i - (c.toList.take (base + o) ++ vs.map (AV.conc ρ)).length) = base + i := by simp; omega
      rw [e]
      exact h2 i v hv
theorem row_size {c : Array Value} {vs : List Value} {k : Nat} (hsz : k + vs.length ≤ c.size) : (c.toList.take k ++ vs ++ c.toList.drop (k + vs.length)).toArray.size = c.size := by
  simp; omega
/-- a row some cells of which are written over -/
theorem Mem.splice (M : Mem w0 out G ρ (hv H) n w) {b e o : Nat} {l vs l' : List AV} {x : TypeId × Bool} (hb : hv H b = some (.cells l e x)) (hs : splice l o vs = some l') (hw : AV.wfs ρ n vs) (h1 : vs.all AV.single = true) (hb1 : b + 1 < 1048576) :
    ∃ w', (storeCells ⟨(ρ b).blk, (ρ b).base + o, none⟩ (vs.map (AV.conc ρ))).run P w = .ok () w' ∧ Mem w0 out G ρ (hv (Tr.set 20 H b (some (.cells l' e x)))) n w' := by
  obtain ⟨⟨c, t, hc, h2, h3, h4, h5⟩, hwf⟩ := M.obj b _ hb
  obtain ⟨hle, _⟩ := splice_eq hs
  obtain ⟨hwf', hlen'⟩ := splice_wf hs hwf hw
  have hsz : (ρ b).base + o + vs.length ≤ c.size := by
    rcases Nat.eq_zero_or_pos l.length with e0 | e0
    · have h5 : (ρ b).base + l.length ≤ c.size := by omega
      omega
    · have h5 : (ρ b).base + l.length ≤ c.size := by omega
      omega
  have hrun := run_storeCells_at (P := P) (ρ b).blk ((ρ b).base + o) t (vs.map (AV.conc ρ)) 0 c w hc (by simpa using hsz) (all_one h1)
  rw [Nat.add_zero] at hrun
  refine ⟨_, hrun, ?_⟩
  rw [hv_set H b _ hb1]
  refine M.put hb ?_ hwf' (fun x hx => setRow_other w _ x _ hx) (size_setRow _ _ _)
  refine ⟨_, t, setRow_heap w _ c _ t (0, 0) hc, row_put h2 hs hsz, by omega, ?_, ?_⟩
  · rw [row_size (by simpa using hsz)]
    exact h4
  · rw [row_size (by simpa using hsz), hlen']
    exact h5
theorem xStore_ok (M : Mem w0 out G ρ (hv H) n w) {t : TypeId} {x v : AV} {r : AV × Hp × Nat} (h : xStore P H n t x v = some r) (hw : v.wf ρ n) {a : Act} {o : Oper} {xo vo : Operand} (ho : o.op = .store t xo vo) (hx : a.eval xo = x.conc ρ) (hv' : a.eval vo = v.conc ρ) :
    Eff w0 out G ρ n r ((execOp a.eval o).run P w) := by
  unfold xStore at h
  split at h
  · rename_i b o'
    split at h
    · rename_i l e x k hb hk
      cases hc : (v.plain && v.cells.length.beq k && v.cells.all AV.single && Nat.blt (b + 1) 1048576) with
      | false => rw [hc] at h; cases h
      | true =>
        rw [hc] at h
        simp only [cond_true] at h
        simp only [Bool.and_eq_true] at hc
        obtain ⟨⟨⟨c1, c2⟩, c3⟩, c4⟩ := hc
        have c2 := Nat.eq_of_beq_eq_true c2
        have c4 : b + 1 < 1048576 := by simpa [Nat.blt_eq] using c4
        split at h
        · rename_i l' hs
          cases h
          obtain ⟨w', hrun, hM⟩ := M.splice (P := P) hb hs (wf_cells hw) c3 c4
          refine ⟨ρ, w', .inr ⟨?_, rfl⟩, hM, fun _ _ => rfl, by simp only [AV.wf], Nat.le_refl _⟩
          simp only [execOp, ho, Sem.run_bind, Instr.storeAt, hx, hv', AV.conc, Instr.sureAddr, rp, Result.andThen_ok, storeVar, run_size hk, conc_cells ρ c1]
          rw [if_neg (by simp [c2])]
          simp only [Sem.run_bind, rp, Result.andThen_ok, hrun]
        · cases h
    · cases h
  · cases h
end
end
end Cx
end Go.Proofs.YtcpkihikmpkdnaaGreatDoor
