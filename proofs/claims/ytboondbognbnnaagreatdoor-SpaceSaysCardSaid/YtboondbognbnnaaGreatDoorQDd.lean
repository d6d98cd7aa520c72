/- SpaceSays holds: a name means what was laid last, nothing once it was dropped, and no other name is touched; what is refused changes no name. The seven listed variables of Go's library are tied by the card; the walk reads the table of powers of ten and that bytealg.MaxLen holds a number. The law's opening is a closed run (text Cx). -/
import Derived.Test.YtboondbognbnnaaGreatDoorQDb
import Derived.Test.YtboondbognbnnaaGreatDoorQDc
import Derived.Test.YtboondbognbnnaaGreatDoorQDa
import Derived.Test.YtboondbognbnnaaGreatDoorQSH
import Derived.Test.YtboondbognbnnaaGreatDoorQCx
import Derived.Lib.LaidTab
import Derived.Lib.AppendIntMem
import Derived.ChangeSame
import Derived.ChangeVars
import Derived.Carry
import Derived.JoinedOf
import Derived.RowKit
import Derived.ProofKit
import Derived.OpenShut
import Derived.LaidMore
import Derived.Lay
import Derived.SevenTiedAt
import Derived.Stop.Joined
import Derived.ShapedOpen
import Derived.Shelf.Vars
set_option linter.unusedVariables false
set_option linter.unusedSimpArgs false
namespace Go.Proofs.YtboondbognbnnaaGreatDoor
open Go.ChangeShapes Go.WideShapes Go.ChangeAt Go.RowKit Go.ChangeMaps
set_option linter.unusedVariables false
section
variable {H : Type} {enc : TypeId × Value → H} {P : Program}
theorem post_of_below {f : Func} {s : ChangeSpec} {apart fresh handsOn again : Bool} {W W' : World} {args : Array Value} {v : Value} {ds gs : List (DataW H)} {before : List MemPlace} {pa pv : List MemPlace}
    (hW : DataW.Whole enc P f.params.toList s.vars apart W args.toList ds gs before)
    (hres : ∀ (b : Nat) (sp : Nat → Bool) (hd : Bool), DataW.TrodAll enc P W' b sp hd f.resultTypes.toList (v.resultList f.resultTypes.size) (s.fn H (ds ++ gs)).results [])
    (hargs : ∀ sp : Nat → Bool, (∀ p ∈ before, sp p.block = true) → DataW.TrodAll enc P W' 0 sp true f.params.toList args.toList (s.fn H (ds ++ gs)).args pa)
    (hvars : ∀ sp : Nat → Bool, (∀ p ∈ before, sp p.block = true) → DataW.TrodVars enc P W' sp s.vars (s.fn H (ds ++ gs)).vars pv)
    (hps : before = pa ++ pv) (hb : Below W.heap.size W W')
    (hok : ∀ (j : Nat) (t : TypeId) (r : Value), f.resultTypes[j]? = some t → (v.resultList f.resultTypes.size)[j]? = some r → Value.okWide P W' .any 0 t r) :
    s.post enc P f apart fresh handsOn again W args v W' := by
  have hlt : ∀ p ∈ before, p.block < W.heap.size := fun p hp => hW.lt p hp
  have hold : ∀ p ∈ before, (fun b => decide (b < W.heap.size)) p.block = true := fun p hp => by simpa using hlt p hp
  refine ⟨ds, gs, before, [], pa, pv, hW, hres _ _ _, hargs _ hold, hvars _ hold, World.keptBut_mono (fun p hp => ⟨hp, ?_⟩) (hb.frame (· ∈ before)), fun _ => ?_⟩
  · rw [hps, List.mem_append] at hp
    exact Or.inr hp
  · obtain ⟨_, _, _, _, _, hz, hn⟩ := hW
    refine ⟨hok, _, _, ([] ++ pa) ++ pv, ⟨[] ++ pa, pv, trodAll_append (hargs _ (fun _ _ => rfl)) (hres _ _ _), hvars _ (fun _ _ => rfl), rfl, ?_, ?_⟩, ?_⟩
    · intro b off hp
      have hin : MemPlace.cell b off ∈ before := by rw [hps]; simpa using hp
      rw [hb.frozen (hlt _ hin)]
      exact hz b off hin
    · intro ha
      have := hn ha
      rw [hps] at this
      simpa using this
    · intro p hp _
      rw [hps]
      simpa using hp
/-- the library's frame, with what the world's shape gives besides -/
theorem handed_shaped_and {a : Assume} {C : Checked} {os : Os} {f : FuncId} {fn : Func} {s : ChangeSpec} {conds : List PathCond} {apart fresh handsOn again : Bool} {X : World → Array Value → Prop}
    (hX : ∀ (w w' : World) (args : Array Value), w.heap = w'.heap → X w args → X w' args)
    (own : ownKnob C.prog.godebug = none) (started : os.Started) (noInit : C.prog.inits.idxOf? f = none) (hfn : C.prog.funcs[f]? = some fn)
    (witness : ∃ (w : World) (tape : Tape) (i : Input), w.os = os ∧ (w.forCall tape i).Shaped C.prog ∧ i.vars = [] ∧ Input.okWide C.prog (w.forCall tape i) .any w.heap.size f i ∧
      ((s.pre enc C.prog fn conds apart (w.forCall tape i).memory i.args ∧ X (w.forCall tape i).memory i.args) ∧ sizedMet enc C.prog fn (OpenSpec.ofChange s) apart (w.forCall tape i).memory i.args) ∧ a.holds C.prog (lone (Frame.enter C.prog f i.args .normal) [] (w.forCall tape i)))
    (contract : ∀ (W : World) (base : Nat) (args : Array Value) (ds gs : List (DataW H)) (before : List MemPlace),
      (∀ (j : Nat) t v, fn.params[j]? = some t → args[j]? = some v → Value.okWide C.prog W .any base t v) →
      DataW.Whole enc C.prog fn.params.toList s.vars apart W args.toList ds gs before → (DataW.weightsEach C.prog (fn.params.toList ++ s.plain.varTypes C.prog) (ds ++ gs)).all (· ≤ reachBytes) = true → X W args → W.ShapedOpen C.prog →
      Calls C.prog f args W fun e W' => ∃ v, e = .returned v ∧ s.post enc C.prog fn apart fresh handsOn again W args v W') :
    ReturnsInHanded a C os f .any (fun w args => (s.pre enc C.prog fn conds apart w args ∧ X w args) ∧ sizedMet enc C.prog fn (OpenSpec.ofChange s) apart w args) (s.post enc C.prog fn apart fresh handsOn again) := by
  refine returnsInHanded_of_calls own started noInit witness ?_
  intro w tape i _ hsh _ hok hpre hholds
  obtain ⟨_, _, _, fn', hfn', _, _, _, _, hval⟩ := hok
  have e : fn' = fn := Option.some.inj (hfn'.symm.trans hfn)
  subst e
  obtain ⟨⟨⟨ds, gs, before, hw, hc⟩, hx⟩, hz⟩ := hpre
  have hw' := DataW.Whole.of_heap (w' := w.forCall tape i) (by rfl) hw
  refine (contract (w.forCall tape i) w.heap.size i.args ds gs before hval hw' (hz.weights hw) (hX _ _ _ (by rfl) hx) hsh).mono fun e W' ⟨v, he, hp⟩ => ?_
  subst he
  exact ChangeSpec.post_blind hp
end
theorem maxLen_cell {W : World} (h : W.ShapedOpen Tryz.prog) : ∃ m : Int, W.cell? ⟨0, 0, none⟩ = some (.int .i64 m) :=
  cell_of_shapedOpen_int (t := 3) (zero := #[.int .i64 0]) h max_in max_row rfl int_builds int_cells Tryz.underlying3
theorem tab_at {W : World} (h : laidMetH Tryz.prog Rows.spaceSaysRow.laid W) : Lib.TabIs Tryz.prog W "internal/strconv.uint64pow10" .u64 Lib.pow10Tab := by
  rw [MakeChecks.laidMetH_plain _ _ _ row_plainLaid] at h
  obtain ⟨ps, hL, -, -⟩ := h
  obtain ⟨g1, t1, cs1, f1, p1, q1, -, -, -, -, hL, -⟩ := hL
  obtain ⟨g2, t2, cs2, f2, p2, q2, -, -, -, -, hL, -⟩ := hL
  obtain ⟨g, t, cs, fuel, p, q, hg, ht, hv, hd, -, -⟩ := hL
  obtain rfl := Option.some.inj (tab_global.symm.trans hg)
  obtain rfl := Option.some.inj (tab_type.symm.trans ht)
  unfold Lib.TabIs
  rw [hv, ← Lib.cells_of_tab (zs := Lib.pow10Tab) Tryz.underlying257 Tryz.underlying168 tab_cells.1 tab_cells.2 hd]
set_option maxRecDepth 100000 in
/-- A value that reads as a term is one. -/
theorem open_arg {H : Type} {enc : TypeId × Value → H} {W : World} {base b0 : Nat} {sp : Nat → Bool} {hd : Bool} {r : Reach} {v : Value} {d : DataW H} {ps : List MemPlace} (hval : Value.okWide Tryz.prog W r b0 29 v)
    (h : DataW.Trod enc Tryz.prog W base sp hd 29 v d ps) (hw : ∀ k ∈ d.weights Tryz.prog 29, k ≤ reachBytes) : ∃ t x, v = TV.val x ∧ RepS W (· < W.heap.size) t x ∧ Pp.rng t = true := by
  obtain ⟨cs, rfl, _⟩ := okWide_struct Tryz.underlying29 hval
  obtain ⟨n, hn⟩ := h
  have hn' : DataW.trod enc Tryz.prog W base sp hd n 29 cs.toList = some (d, ps) := hn
  obtain ⟨t, x, he, hr, hg⟩ := open_term n cs.toList (d, ps) hn' (fun k hk => hw k hk)
  refine ⟨t, x, ?_, hr.toS t x, hg⟩
  have : cs = x.cells := Array.toList_inj.1 he
  rw [this]
  rfl
set_option maxRecDepth 100000 in
theorem open_arr_arg {H : Type} {enc : TypeId × Value → H} {W : World} {base b0 : Nat} {sp : Nat → Bool} {hd : Bool} {r : Reach} {v : Value} {d : DataW H} {ps : List MemPlace} (hval : Value.okWide Tryz.prog W r b0 26 v)
    (h : DataW.Trod enc Tryz.prog W base sp hd 26 v d ps) (hw : ∀ k ∈ d.weights Tryz.prog 26, k ≤ reachBytes) : ∃ (x : AV) (sh a : List Int), v = AV.val x ∧ ARepS W (· < W.heap.size) sh a x ∧ (∀ v ∈ sh, Pz.inRange v = true) ∧ ∀ v ∈ a, Pz.inRange v = true := by
  obtain ⟨cs, rfl, _⟩ := okWide_struct Tryz.underlying26 hval
  obtain ⟨n, hn⟩ := h
  have hn' : DataW.trod enc Tryz.prog W base sp hd n 26 cs.toList = some (d, ps) := hn
  obtain ⟨x, sh, a, he, hr, hg⟩ := open_array hn' (fun k hk => hw k hk)
  refine ⟨x, sh, a, ?_, hr, hg⟩
  have : cs = x.cells := Array.toList_inj.1 he
  rw [this]
  rfl
theorem open_defs_arg {H : Type} {enc : TypeId × Value → H} {W : World} {base : Nat} {sp : Nat → Bool} {hd : Bool} {v : Value} {d : DataW H} {ps : List MemPlace} (hval : ∃ A len cap, v = .slice A len cap)
    (h : DataW.Trod enc Tryz.prog W base sp hd 22 v d ps) (hw : ∀ k ∈ d.weights Tryz.prog 22, k ≤ reachBytes) : ∃ (A : Option Addr) (len cap : Nat) (L : List DR), v = .slice A len cap ∧ DefsAt W (· < W.heap.size) A len L ∧ (∀ r ∈ L, r.ok) ∧ len ≤ 17592186044416 := by
  obtain ⟨A, len, cap, rfl⟩ := hval
  obtain ⟨n, hn⟩ := h
  have hn' : DataW.trod enc Tryz.prog W base sp hd n 22 [.slice A len cap] = some (d, ps) := hn
  exact open_defs hn' (fun k hk => hw k hk)
set_option maxRecDepth 100000 in
theorem spaceSays_lifted (os : Os) (started : os.Started) (H : Type) (enc : TypeId × Value → H) :
    ReturnsInHanded {} Tryz.checked os 3 .any (fun w args => (Rows.spaceSaysSpec.pre enc Tryz.prog Tryz.f3 Rows.spaceSaysRow.domain false w args ∧ laidMetH Tryz.prog Rows.spaceSaysRow.laid w) ∧ sizedMet enc Tryz.prog Tryz.f3 (OpenSpec.ofChange Rows.spaceSaysSpec) false w args)
      (Rows.spaceSaysSpec.post enc Tryz.prog Tryz.f3 false true false false) := by
  refine handed_shaped_and (C := Tryz.checked) (X := fun w _ => laidMetH Tryz.prog Rows.spaceSaysRow.laid w) (fun _ _ _ hh h => h.of_heap hh) own_knob started row_noInit Tryz.func3
    (ChangeSpec.witness_shaped (enc := enc) (C := Tryz.checked) (os := os) (X := fun w _ => laidMetH Tryz.prog Rows.spaceSaysRow.laid w) false (World.laidAll Tryz.prog os Rows.spaceSaysRow.laid) #[.slice none 0 0, .string ByteArray.empty, .agg #[.int .i64 0, .string ByteArray.empty, .int .i64 0, .slice none 0 0, .slice none 0 0, .slice none 0 0], .agg #[.slice none 0 0, .slice none 0 0]] 8 (World.laidAll_os _ _ _)
      (World.shaped_of_ZipB (wit_zip os) (wit_rest os)) (wit_ok os) (wit_pre os H enc) (wit_sized os H enc)
      (by rw [MakeChecks.laidMetH_plain _ _ _ row_plainLaid]; exact laidMet_laidAll _ (wit_fits os) (wit_ifaces os))) ?_
  intro W base args ds gs before hval0 hW hsz0 hL hsh
  have hval : ∀ (j : Nat) t v, Tryz.f3.params[j]? = some t → args[j]? = some v → Value.okWide Tryz.prog W .any base t v := hval0
  have hsz : (DataW.weightsEach Tryz.prog (Tryz.f3.params.toList ++ Rows.spaceSaysSpec.plain.varTypes Tryz.prog) (ds ++ gs)).all (· ≤ reachBytes) = true := hsz0
  have hW' := hW
  obtain ⟨p, q, hA0, hV0, rfl, hfz, hnd⟩ := hW
  have hA : DataW.TrodAll enc Tryz.prog W 0 (fun _ => true) true Tryz.f3.params.toList args.toList ds p := hA0
  have hV : DataW.TrodVars enc Tryz.prog W (fun _ => true) [] gs q := hV0
  rw [Tryz.params3] at hA hval hsz
  obtain ⟨v0, v1, v2, v3, d0, d1, d2, d3, p0, p1, p2, p3, rfl, rfl, rfl, h0, h1, h2, h3⟩ := trodAll_four hA
  obtain ⟨rfl, rfl⟩ := trodVars_none hV
  have h0k := h0
  have h2k := h2
  have h3k := h3
  have hz : ∀ (j : Nat) (t : TypeId) (d : DataW H), [22, 9, 29, 26][j]? = some t → [d0, d1, d2, d3][j]? = some d → ∀ k ∈ d.weights Tryz.prog t, k ≤ reachBytes := fun j t d ht hd k hk => by
    have := List.all_eq_true.1 hsz k (DataW.weights_mem_each (j := j) (ts := [22, 9, 29, 26]) (ds := [d0, d1, d2, d3]) ht hd k hk)
    simpa using this
  obtain ⟨A, len, cap, L, rfl, hL0, hok, hl⟩ := open_defs_arg (okWide_slice Tryz.underlying22 (hval 0 22 v0 rfl rfl)) h0 (hz 0 _ _ rfl rfl)
  obtain ⟨s, rfl, rfl, rfl, hsm⟩ := open_string Tryz.underlying9 (hval 1 9 v1 rfl rfl) h1
  have hs : s.size ≤ 140737488355328 := by
    have := hz 1 9 _ rfl rfl s.data.toList.length (by simp [DataW.weights])
    rw [Array.length_toList] at this
    unfold reachBytes at this
    show s.data.size ≤ _
    omega
  obtain ⟨t, x, rfl, hr, hg⟩ := open_arg (hval 2 29 v2 rfl rfl) h2 (hz 2 _ _ rfl rfl)
  obtain ⟨y, sh, a, rfl, hy, hrs, hra⟩ := open_arr_arg (hval 3 26 v3 rfl rfl) h3 (hz 3 _ _ rfl rfl)
  have hH : Cx.Here W (fun c => c < W.heap.size) := by
    obtain ⟨m, hm⟩ := maxLen_cell hsh
    exact ⟨World.block_lt_of_cell? W _ hm, m, hm⟩
  refine (spaceSays_calls (cap := cap) hL0 hok hl hs hr hg hy hrs hra (Lib.tabBelow_of_tabIs (tab_at hL)) (fun W' hb => Cx.closed_calls (Cx.xCal_ok (Cx.orcB_ok _) Cx.ext_ok Cx.idle_ok Cx.mixed 60).1 Cx.begun_runs W' (hH.rebase fun c hc => ⟨Nat.lt_of_lt_of_le hc hb.size, hb.block c hc⟩))).mono fun e W' ⟨he, hb⟩ => ?_
  subst he
  have hlt : ∀ y ∈ p0 ++ [] ++ p2 ++ p3, y.block < W.heap.size := fun y hy => hW'.lt y (by simpa using hy)
  exact ⟨_, rfl, post_of_below (pa := p0 ++ ([] ++ (p2 ++ p3))) (pv := []) hW' (fun _ _ _ => trodAll_mk1 (shut_bool Tryz.underlying4 true))
    (fun sp hsp => trodAll_mk4 (WideElems.Trod_stays laid_out ops_plainDefs (of_decide_eq_true ops_inDefs) h0k (fun y hy => hb.same (hlt y (by simp [hy]))) (fun y hy => hsp y (by simp [hy]))) (shut_string Tryz.underlying9 hsm)
      (WideElems.Trod_stays laid_out ops_plainTerm (of_decide_eq_true ops_inTerm) h2k (fun y hy => hb.same (hlt y (by simp [hy]))) (fun y hy => hsp y (by simp [hy])))
      (WideElems.Trod_stays laid_out ops_plainArr (of_decide_eq_true ops_inArr) h3k (fun y hy => hb.same (hlt y (by simp [hy]))) (fun y hy => hsp y (by simp [hy])))) (fun _ _ => rfl) (by simp) hb (ok_one (by kernel_rfl) rfl (okWide_bool_mk Tryz.underlying4 _))⟩
theorem spaceSays_said : Rows.SpaceSaysSaid :=
  OpenClaim.holds_of_wide 3 Tryz.f3 rfl rfl rfl rfl rfl rfl rfl ⟨rfl, rfl, rfl, rfl, rfl⟩ rfl rfl rfl rfl rfl row_name Tryz.func3 row_closed
    row_inst row_wrap
    (fun os started H enc _ => spaceSays_lifted os started H enc)
theorem spaceSays_plain (f : FuncId) (fn : Func) (hf : Tryz.pinned.checked.prog.funcNamed "abacus/abacuslaw18.SpaceSays" = some f) (hfn : Tryz.pinned.checked.prog.funcs[f]? = some fn) :
    true = Tryz.pinned.checked.prog.looks [] ∧ ∀ (j : Nat) t, fn.params[j]? = some t → Tryz.pinned.checked.prog.wantsStandIn t = false := by
  obtain rfl : f = 3 := Option.some.inj (row_name.symm.trans hf) |>.symm
  obtain rfl : fn = Tryz.f3 := (Option.some.inj (Tryz.func3.symm.trans hfn)).symm
  refine ⟨row_looks, fun j t ht => ?_⟩
  rw [Tryz.params3] at ht
  have hm : t ∈ [22, 9, 29, 26] := by simpa using Array.mem_of_getElem? ht
  exact (show Tryz.prog.wantsStandIn t = false by simpa using List.all_eq_true.1 str_plain t hm)
/-- THE CARD. -/
theorem spaceSays_card : Rows.SpaceSaysCardSaid :=
  Claim7.holds_tied_plain_at .later [] _ _ (true, "cbcc26d28876830df26435de560e8cce799f1e34bad8626b068303aa1b49ba38") _ spaceSays_said (fun _ h => by cases h) row_wfText (fun _ h => by cases h) spaceSays_row_tie rfl ⟨rfl, rfl⟩ row_main rfl spaceSays_plain row_goes
#print axioms spaceSays_card
end Go.Proofs.YtboondbognbnnaaGreatDoor
