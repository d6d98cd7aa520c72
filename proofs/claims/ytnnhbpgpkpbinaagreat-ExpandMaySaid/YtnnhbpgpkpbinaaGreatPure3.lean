/- The noun of a verb that may be: a noun that may be, with at most six nodes for each of the verb's, and at most four times as deep. -/
import Derived.Test.YtnnhbpgpkpbinaaGreatPure2
namespace Go.Proofs.YtnnhbpgpkpbinaaGreat
namespace T

theorem good_y (al : Bool) : good yT al = true := by
  cases al <;> simp [yT, nameT, good_mk, goodL, node, fields, kidsOk, cls, txt_list, named, pattern, kidsFor, allOf] <;> decide
theorem good_x : good (nameT [120]) false = true := by
  simp [nameT, good_mk, goodL, node, fields, kidsOk, cls, txt_list, named, pattern, kidsFor, allOf] <;> decide
theorem good_left {v : Int} (hv : v = 1 ∨ v = 2) : good (leftT v) (v == 1) = true := by
  rcases hv with rfl | rfl
  · exact good_y _
  · exact good_x
theorem cls_left (v : Int) : cls (leftT v).kind = 1 := by unfold leftT; split <;> rfl
theorem left_small (v : Int) : (leftT v).nodes = 1 ∧ (leftT v).height = 1 := by
  unfold leftT; split <;> simp [yT, nameT, nodes, nodesL, height, heightL]
theorem y_small : yT.nodes = 1 ∧ yT.height = 1 := by simp [yT, nameT, nodes, nodesL, height, heightL]

theorem good_mon {v e : T} {al : Bool} (hv : good v al = true) (he : good e al = true) (cv : cls v.kind = 3) (ce : cls e.kind = 1) : good (monT v e) al = true := by
  rw [monT, good_mk, Bool.and_eq_true]
  refine ⟨?_, by simp [under, goodL, hv, he]⟩
  have h1 : fields (mk 3 (txt []) 0 [] [] [v, e]) = true := by simp [fields, txt_list]
  have h2 : kidsOk (mk 3 (txt []) 0 [] [] [v, e]) = true := by simp [kidsOk, pattern, kidsFor, allOf, isOf, cv, ce]
  simp only [node, h1, h2, kind_mk, text_mk]
  simp [cls]
theorem good_dy {v l r : T} {al : Bool} (hv : good v al = true) (hl : good l al = true) (hr : good r al = true) (cv : cls v.kind = 3) (cl : cls l.kind = 1) (cr : cls r.kind = 1) : good (dyT v l r) al = true := by
  rw [dyT, good_mk, Bool.and_eq_true]
  refine ⟨?_, by simp [under, goodL, hv, hl, hr]⟩
  have h1 : fields (mk 4 (txt []) 0 [] [] [v, l, r]) = true := by simp [fields, txt_list]
  have h2 : kidsOk (mk 4 (txt []) 0 [] [] [v, l, r]) = true := by simp [kidsOk, pattern, kidsFor, allOf, isOf, cv, cl, cr]
  simp only [node, h1, h2, kind_mk, text_mk]
  simp [cls]
theorem good_pick {l : List T} {al : Bool} (hl : ∀ t ∈ l, good t al = true ∧ cls t.kind = 1) (h2 : 2 ≤ l.length) (h17 : l.length ≤ 17) : good (mk 5 (txt []) 0 [] [] l) al = true := by
  rw [good_mk, Bool.and_eq_true]
  refine ⟨?_, ?_⟩
  · have h1 : fields (mk 5 (txt []) 0 [] [] l) = true := by simp [fields, txt_list]
    have h2 : kidsOk (mk 5 (txt []) 0 [] [] l) = true := by
      have e : kidsOk (mk 5 (txt []) 0 [] [] l) = (decide (2 ≤ l.length) && decide (l.length ≤ 17) && l.all (isOf · 110)) := rfl
      rw [e]
      simp only [h2, h17, decide_true, Bool.true_and, List.all_eq_true]
      intro t ht
      simp [isOf, (hl t ht).2]
    simp only [node, h1, h2, kind_mk, text_mk]
    simp [cls]
  · have e : under (mk 5 (txt []) 0 [] [] l) al = al := by simp [under]
    rw [e, goodL_iff]
    exact fun t ht => (hl t ht).1
theorem good_def {v : Int} {e : T} (hv : v = 1 ∨ v = 2) (he : good e (v == 1) = true) (ce : cls e.kind = 1) (al : Bool) : good (defT v e) al = true := by
  have hsay : good (mk 10 (txt []) 0 [] [] [e]) (v == 1) = true := by
    rw [good_mk, Bool.and_eq_true]
    refine ⟨?_, by simp [under, goodL, he]⟩
    have h1 : fields (mk 10 (txt []) 0 [] [] [e]) = true := by simp [fields, txt_list]
    have h2 : kidsOk (mk 10 (txt []) 0 [] [] [e]) = true := by simp [kidsOk, pattern, kidsFor, allOf, isOf, ce]
    simp only [node, h1, h2, kind_mk, text_mk]
    simp [cls]
  have hbody : good (mk 14 (txt []) 0 [] [] [mk 10 (txt []) 0 [] [] [e]]) (v == 1) = true := by
    rw [good_mk, Bool.and_eq_true]
    refine ⟨?_, by simp [under, goodL, hsay]⟩
    have h1 : fields (mk 14 (txt []) 0 [] [] [mk 10 (txt []) 0 [] [] [e]]) = true := by simp [fields, txt_list]
    have h2 : kidsOk (mk 14 (txt []) 0 [] [] [mk 10 (txt []) 0 [] [] [e]]) = true := by simp [kidsOk, pattern, kidsFor, isOf, cls]
    simp only [node, h1, h2, kind_mk, text_mk]
    simp [cls]
  rw [defT, good_mk, Bool.and_eq_true]
  refine ⟨?_, ?_⟩
  · have h1 : fields (mk 23 (txt []) v [] [] [mk 14 (txt []) 0 [] [] [mk 10 (txt []) 0 [] [] [e]]]) = true := by
      rcases hv with rfl | rfl <;> simp [fields, txt_list]
    have h2 : kidsOk (mk 23 (txt []) v [] [] [mk 14 (txt []) 0 [] [] [mk 10 (txt []) 0 [] [] [e]]]) = true := by simp [kidsOk, pattern, kidsFor, allOf, isOf]
    simp only [node, h1, h2, kind_mk, text_mk]
    simp [cls]
  · simpa [under, goodL] using hbody

/-- what is held of a verb's noun -/
def Okn (t u : T) (v : Int) : Prop := u.nodes ≤ 6 * t.nodes ∧ u.height ≤ 4 * t.height ∧ cls u.kind = 1 ∧ good u (v == 1) = true
/-- what is held of a verb as it stands for others -/
def Oko (t u : T) : Prop := u.nodes ≤ 6 * t.nodes + 3 ∧ u.height ≤ 4 * t.height + 3 ∧ cls u.kind = 3 ∧ good u true = true

theorem def_size (v : Int) (e : T) : (defT v e).nodes = e.nodes + 3 ∧ (defT v e).height = e.height + 3 := by
  simp only [defT, nodes, nodesL, height, heightL]; omega
theorem other_ok {u : T} {w : Int} {nw : T} (cu : cls u.kind = 3) (gu : good u false = true) (hw : w = 1 ∨ w = 2) (h : Okn u nw w) : Oko u (otherOf u w nw) := by
  unfold otherOf
  split
  · exact ⟨by omega, by omega, cu, verb_alone u cu gu⟩
  · have := def_size w nw
    obtain ⟨h1, h2, h3, h4⟩ := h
    exact ⟨by omega, by omega, rfl, good_def hw h4 h3 true⟩
theorem mon_size (v e : T) : (monT v e).nodes = 1 + (v.nodes + e.nodes) ∧ (monT v e).height = 1 + max v.height e.height := by
  simp only [monT, nodes, nodesL, height, heightL]; omega
theorem dy_size (v l r : T) : (dyT v l r).nodes = 1 + (v.nodes + (l.nodes + r.nodes)) ∧ (dyT v l r).height = 1 + max v.height (max l.height r.height) := by
  simp only [dyT, nodes, nodesL, height, heightL]; omega
end T
end Go.Proofs.YtnnhbpgpkpbinaaGreat
