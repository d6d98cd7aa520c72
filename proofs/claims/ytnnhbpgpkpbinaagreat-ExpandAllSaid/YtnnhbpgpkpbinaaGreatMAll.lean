/- ExpandAll holds: the row. -/
import Derived.Test.YtnnhbpgpkpbinaaGreatMRead
import Derived.Test.YtnnhbpgpkpbinaaGreatMLaw4
import Derived.Test.YtnnhbpgpkpbinaaGreatMPost
set_option linter.unusedVariables false
set_option linter.unusedSimpArgs false
namespace Go.Proofs.YtnnhbpgpkpbinaaGreat
open Go.ChangeShapes Go.WideShapes Go.Deep Go.RowKit Go.ChangeAt
set_option linter.unusedVariables false

section
variable {H : Type} {enc : TypeId × Value → H} {w : World} {base : Nat} {sp : Nat → Bool} {hd : Bool}
/-- a list of terms that is read -/
theorem open_terms {n : Nat} {c5 : Value} {y4 : DataW H × List MemPlace} (f4 : DataW.trod enc Tryz.prog w base sp hd n 22 [c5] = some y4) (hw4 : ∀ k ∈ y4.1.weights Tryz.prog 22, k ≤ reachBytes) :
    ∃ (ka : Option Addr) (kl kc : Nat) (l : List T), c5 = .slice ka kl kc ∧ kl ≤ kc ∧ kl ≤ 2199023255552 ∧ kc ≤ maxLen ∧ kl = l.length ∧ KidsAt w w.heap.size ka l := by
  rcases DataW.trod_slice Tryz.underlying22 f4 with ⟨h1, h2⟩ | ⟨a, len, cap, elems, rest, q, hq, h1, ey4, _, hlc, hcm, hel, hx, _, _⟩
  · exact ⟨none, 0, 0, [], by simpa using h1, by omega, by omega, by decide, rfl, fun j u hj => by simp at hj⟩
  · rw [ey4] at hw4
    simp only [DataW.weights, Tryz.underlying22, bytes_term, List.length_map, List.mem_cons, List.mem_append] at hw4
    have hlen : len ≤ 2199023255552 := by
      have := hw4 _ (Or.inl rfl)
      unfold reachBytes at this
      omega
    have hone : ∀ i, i < len → ∃ cs' e, elems[i]? = some e ∧ e ∈ elems ∧ w.cells? base (a.add (i * 6)) 6 = some cs' ∧ DataW.trod enc Tryz.prog w base sp hd q 29 cs' = some e := by
      intro i hi
      have h3 := hx i hi
      rw [List.getElem?_eq_getElem (by omega), cells_term] at h3
      obtain ⟨cs', h4, h5⟩ := Option.bind_eq_some_iff.1 h3
      exact ⟨cs', _, List.getElem?_eq_getElem (by omega), List.getElem_mem _, h4, h5⟩
    have hplain : 0 < len → a = ⟨a.block, a.off, none⟩ ∧ a.block < w.heap.size := by
      intro h0
      obtain ⟨cs', e, _, _, h4, h5⟩ := hone 0 h0
      obtain ⟨_, hcl, hc⟩ := World.cells?_some h4
      have hc0 := hc 0 (by omega)
      rw [add_add, List.getElem?_eq_getElem (by omega)] at hc0
      exact plain_of_cell hc0
    have hall : ∀ i, i < len → ∃ tx : T × TV, At w a.block (a.off + i * 6) tx.2 ∧ Rep w w.heap.size tx.1 tx.2 ∧ a = ⟨a.block, a.off, none⟩ ∧ a.block < w.heap.size := by
      intro i hi
      obtain ⟨ea, hbl⟩ := hplain (by omega)
      obtain ⟨cs', e, _, hmem, h4, h5⟩ := hone i hi
      obtain ⟨t, x, rfl, hr⟩ := open_term q cs' _ h5 (fun k hk => hw4 k (Or.inr (Or.inl (weights_mem_all (List.mem_map_of_mem hmem) k hk))))
      have hc := (World.cells?_some h4).2.2
      rw [ea] at hc
      simp only [add_plain] at hc
      exact ⟨(t, x), ⟨hc 0 (by omega), hc 1 (by omega), hc 2 (by omega), hc 3 (by omega), hc 4 (by omega), hc 5 (by omega)⟩, hr, ea, hbl⟩
    have : Inhabited (T × TV) := ⟨(.mk 0 ByteArray.empty 0 [] [] [], ⟨0, ByteArray.empty, 0, none, 0, 0, none, 0, 0, none, 0, 0⟩)⟩
    obtain ⟨f, hf⟩ := choose_lt hall
    refine ⟨some a, len, cap, (List.range len).map fun i => (f i).1, by simpa using h1, hlc, hlen, hcm, by simp, fun j u hu => ?_⟩
    have hj : j < len := by
      have := (List.getElem?_eq_some_iff.1 hu).1
      simpa using this
    have hu' : (f j).1 = u := by simpa [hj] using hu
    obtain ⟨p1, p2, p3, p4⟩ := hf j hj
    rw [hu'] at p2
    exact ⟨a.block, a.off, (f j).2, by rw [← p3], p4, p1, p2⟩
end

set_option maxRecDepth 100000 in
theorem expandAll_lifted (os : Os) (started : os.Started) (H : Type) (enc : TypeId × Value → H) :
    ReturnsInHanded {} Tryz.checked os 3 .any (Rows.expandAllSpec.pre6 enc Tryz.prog Tryz.f3 Rows.expandAllRow.domain false) (Rows.expandAllSpec.post enc Tryz.prog Tryz.f3 false true false false) := by
  refine returnsInHanded_of_change_sized (C := Tryz.checked) own_knob started (by kernel_rfl) Tryz.func3
    (ChangeSpec.witness6 (enc := enc) (C := Tryz.checked) false ⟨#[], #[.slice none 0 0, .slice none 0 0], []⟩ 8 (by kernel_rfl) (by kernel_rfl) (by kernel_rfl) (by kernel_rfl)) ?_
  intro W base args ds gs before hval0 hW _ hsz0 _
  have hval : ∀ (j : Nat) t v, Tryz.f3.params[j]? = some t → args[j]? = some v → Value.okWide Tryz.prog W .any base t v := hval0
  have hsz : (DataW.weightsEach Tryz.prog (Tryz.f3.params.toList ++ Rows.expandAllSpec.plain.varTypes Tryz.prog) (ds ++ gs)).all (· ≤ reachBytes) = true := hsz0
  have hW' := hW
  obtain ⟨p, q, hA0, hV0, rfl, hfz, hnd⟩ := hW
  have hA : DataW.TrodAll enc Tryz.prog W 0 (fun _ => true) true Tryz.f3.params.toList args.toList ds p := hA0
  have hV : DataW.TrodVars enc Tryz.prog W (fun _ => true) [] gs q := hV0
  rw [Tryz.params3] at hA hval hsz
  obtain ⟨v0, v1, d0, d1, p0, p1, rfl, rfl, rfl, h0, h1⟩ := trodAll_two hA
  obtain ⟨rfl, rfl⟩ := trodVars_none hV
  have h0k := h0
  have h1k := h1
  obtain ⟨a0, n0, c0, rfl⟩ := okWide_slice Tryz.underlying22 (hval 0 22 v0 rfl rfl)
  obtain ⟨a1, n1, c1, rfl⟩ := okWide_slice Tryz.underlying23 (hval 1 23 v1 rfl rfl)
  obtain ⟨f0, hf0⟩ := h0
  obtain ⟨f1, hf1⟩ := h1
  obtain ⟨ka, kl, kc, l, e0, _, hl1, _, hll, hks⟩ := open_terms (show DataW.trod enc Tryz.prog W 0 (fun _ => true) true f0 22 [.slice a0 n0 c0] = some (d0, p0) from hf0) (fun k hk => by simpa using List.all_eq_true.1 hsz k (DataW.weights_mem_each (j := 0) rfl rfl k hk))
  obtain ⟨A2, n2, c2, vs, e1, hi, _, hn2, _⟩ := open_numbers Tryz.underlying23 Tryz.underlying3 cells_int bytes_int (show DataW.trod enc Tryz.prog W 0 (fun _ => true) true f1 23 [.slice a1 n1 c1] = some (d1, p1) from hf1) (fun k hk => by simpa using List.all_eq_true.1 hsz k (DataW.weights_mem_each (j := 1) rfl rfl k hk))
  cases e0
  cases e1
  refine (expandAll_calls l vs _ _ _ _ _ _ W.heap.size W hll hl1 hks hi hn2 (Nat.le_refl _)).mono fun e W' ⟨he, hb⟩ => ?_
  subst he
  have hlt : ∀ y ∈ p0, y.block < W.heap.size := fun y hy => hW'.lt y (by simp [hy])
  have hlt1 : ∀ y ∈ p1, y.block < W.heap.size := fun y hy => hW'.lt y (by simp [hy])
  exact ⟨_, rfl, post_of_below (pa := p0 ++ p1) (pv := []) hW' (fun _ _ _ => trodAll_mk1 (shut_bool Tryz.underlying4 true))
    (fun sp hsp => trodAll_mk2 (WideElems.Trod_stays laid_out (by kernel_rfl) (of_decide_eq_true (by kernel_rfl)) h0k (fun y hy => hb.same (hlt y hy)) (fun y hy => hsp y (by simp [hy]))) (WideElems.Trod_stays laid_out (by kernel_rfl) (of_decide_eq_true (by kernel_rfl)) h1k (fun y hy => hb.same (hlt1 y hy)) (fun y hy => hsp y (by simp [hy])))) (fun _ _ => rfl) (by simp) hb (ok_one (by kernel_rfl) rfl (okWide_bool_mk Tryz.underlying4 _))⟩

theorem expandAll_holds : Rows.ExpandAllSaid :=
  OpenClaim.holds_of_wide 3 Tryz.f3 rfl rfl rfl rfl rfl rfl rfl ⟨rfl, rfl, rfl, rfl, rfl⟩ rfl rfl rfl rfl rfl (by kernel_rfl) Tryz.func3 (by kernel_rfl)
    (of_decide_eq_true (by kernel_rfl)) (by unfold Func.isWrapper; rw [if_neg (of_decide_eq_false (by kernel_rfl))]; exact ⟨rfl, rfl⟩)
    (fun os started H enc _ => expandAll_lifted os started H enc)
#print axioms expandAll_holds
end Go.Proofs.YtnnhbpgpkpbinaaGreat
