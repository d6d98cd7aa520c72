/- The noun of a verb that may be: by the kinds. -/
import Derived.Test.YtnnhbpgpkpbinaaGreatPure3
namespace Go.Proofs.YtnnhbpgpkpbinaaGreat
namespace T

theorem noun_mk (k s m sh a l v) : noun (mk k s m sh a l) v = nounOf (mk k s m sh a l) v (nouns l v) (nouns l 1) (nouns l 2) := by simp [noun]
theorem pattern_of {k : Int} (h : k = 22 ∨ k = 27 ∨ k = 29 ∨ k = 46 ∨ k = 31 ∨ k = 39 ∨ k = 40 ∨ k = 44 ∨ k = 45 ∨ k = 36 ∨ k = 37) :
    pattern k = if k = 22 then [111] else if k = 27 then [118] else if k = 39 then [111, 118] else if k = 40 then [118, 111] else if k = 45 then [118, 118, 118] else [118, 118] := by
  rcases h with rfl | rfl | rfl | rfl | rfl | rfl | rfl | rfl | rfl | rfl | rfl <;> rfl

theorem noun_cases (k s m sh a l) (v : Int) : noun (mk k s m sh a l) v =
    if k = 20 ∧ s.data.toList = [93] then yT
    else if k = 20 ∧ s.data.toList = [91] then leftT v
    else if opens (mk k s m sh a l) v = true then openOf k v l (nouns l v) (nouns l 1) (nouns l 2)
    else if v = 2 then dyT (mk k s m sh a l) (nameT [120]) yT else monT (mk k s m sh a l) yT := by rw [noun_mk]; rfl

/-- kids of a node that may be, by its pattern -/
theorem kids_one {l : List T} {c : UInt8} (h : kidsFor [c] l = true) (hc : c ≠ 115) : ∃ t, l = [t] ∧ isOf t c = true := by
  rw [kidsFor, if_neg (by simpa using hc), if_neg (by simp), if_neg (by simp)] at h
  obtain ⟨t, r, rfl, ht, hr⟩ := allOf_cons h
  rw [allOf_nil hr]
  exact ⟨t, rfl, ht⟩
theorem kids_two {l : List T} {c d : UInt8} (h : kidsFor [c, d] l = true) (hd : d ≠ 43) : ∃ t u, l = [t, u] ∧ isOf t c = true ∧ isOf u d = true := by
  rw [kidsFor, if_neg (by simp), if_neg (by simp [hd]), if_neg (by simp [hd])] at h
  obtain ⟨t, r, rfl, ht, hr⟩ := allOf_cons h
  obtain ⟨u, r, rfl, hu, hr⟩ := allOf_cons hr
  rw [allOf_nil hr]
  exact ⟨t, u, rfl, ht, hu⟩
theorem kids_three {l : List T} {c d e : UInt8} (h : kidsFor [c, d, e] l = true) : ∃ t u x, l = [t, u, x] ∧ isOf t c = true ∧ isOf u d = true ∧ isOf x e = true := by
  rw [kidsFor, if_neg (by simp), if_neg (by simp), if_neg (by simp)] at h
  obtain ⟨t, r, rfl, ht, hr⟩ := allOf_cons h
  obtain ⟨u, r, rfl, hu, hr⟩ := allOf_cons hr
  obtain ⟨x, r, rfl, hx, hr⟩ := allOf_cons hr
  rw [allOf_nil hr]
  exact ⟨t, u, x, rfl, ht, hu, hx⟩
theorem kids_many {l : List T} (h : kidsFor [118, 43] l = true) : 2 ≤ l.length ∧ l.length ≤ 17 ∧ ∀ t ∈ l, isOf t 118 = true := by
  have h' : (decide (2 ≤ l.length) && decide (l.length ≤ 17) && l.all (isOf · 118)) = true := h
  simp only [Bool.and_eq_true, List.all_eq_true, decide_eq_true_eq] at h'
  exact ⟨h'.1.1, h'.1.2, h'.2⟩

theorem okn_default (t : T) (v : Int) (hv : v = 1 ∨ v = 2) (ct : cls t.kind = 3) (gt : good t false = true) : Okn t (if v = 2 then dyT t (nameT [120]) yT else monT t yT) v := by
  have hn := nodes_pos t
  have hh := height_pos t
  have ga := verb_alone t ct gt
  rcases hv with rfl | rfl
  · rw [if_neg (by decide)]
    have hs := mon_size t yT
    have hy := y_small
    exact ⟨by omega, by omega, rfl, good_mon ga (good_y _) ct rfl⟩
  · rw [if_pos rfl]
    have hs := dy_size t (nameT [120]) yT
    have hy := y_small
    have hx := left_small 2
    have hx' : leftT 2 = nameT [120] := rfl
    rw [hx'] at hx
    exact ⟨by omega, by omega, rfl, good_dy gt good_x (good_y _) ct rfl rfl⟩
theorem nouns_sum {l : List T} {v : Int} (h : ∀ t ∈ l, Okn t (noun t v) v) : nodesL (nouns l v) ≤ 6 * nodesL l ∧ heightL (nouns l v) ≤ 4 * heightL l := by
  induction l with
  | nil => simp [nouns, nodesL, heightL]
  | cons t l ih =>
    have h1 := h t (by simp)
    have h2 := ih (fun u hu => h u (by simp [hu]))
    simp only [nouns, nodesL, heightL]
    exact ⟨by have := h1.1; omega, by have := h1.2.1; omega⟩

theorem noun_ok (t : T) : cls t.kind = 3 → good t false = true → ∀ v : Int, v = 1 ∨ v = 2 → Okn t (noun t v) v := by
  refine T.ind (P := fun t => cls t.kind = 3 → good t false = true → ∀ v : Int, v = 1 ∨ v = 2 → Okn t (noun t v) v) ?_ t
  intro k s m sh a l ih hc hg v hv
  have hg0 := hg
  rw [good_mk, Bool.and_eq_true] at hg
  have hn := hg.1
  simp only [node, Bool.and_eq_true, Bool.false_and, Bool.not_false, and_true, kind_mk, text_mk] at hn
  have hk2 : kidsFor (pattern k) l = true := hn.2
  have hgl := hg.2
  have g1 : (2 : Int) = 1 ∨ (2 : Int) = 2 := .inr rfl
  have g2 : (1 : Int) = 1 ∨ (1 : Int) = 2 := .inl rfl
  rw [noun_cases]
  have hy := y_small
  have hx := left_small v
  have hcx := cls_left v
  have hgx := good_left hv
  have hN : (mk k s m sh a l).nodes = 1 + nodesL l := by simp [nodes]
  have hH : (mk k s m sh a l).height = 1 + heightL l := by simp [height]
  split
  · exact ⟨by omega, by omega, rfl, good_y _⟩
  split
  · exact ⟨by omega, by omega, hcx, hgx⟩
  split
  case isFalse => exact okn_default _ v hv hc hg0
  rename_i hnr hnl ho
  -- a kind of the table
  have hk : k = 43 ∨ k = 22 ∨ k = 27 ∨ k = 29 ∨ k = 46 ∨ k = 31 ∨ k = 39 ∨ k = 40 ∨ k = 44 ∨ k = 45 ∨ k = 36 ∨ k = 37 := by
    have ho : opensK k s.data.toList v = true := ho
    unfold opensK at ho
    split at ho
    · rename_i h20
      simp only [Bool.or_eq_true, beq_iff_eq] at ho
      rcases ho with h | h
      · exact absurd ⟨h20, h⟩ hnl
      · exact absurd ⟨h20, h⟩ hnr
    · split at ho
      · omega
      · simp only [Bool.or_eq_true, beq_iff_eq] at ho
        omega
  have h23 : k ≠ 23 := by omega
  have hu : under (mk k s m sh a l) false = false := by simp [under, h23]
  rw [hu, goodL_iff] at hgl
  have vb : ∀ u ∈ l, isOf u 118 = true → cls u.kind = 3 ∧ good u false = true := fun u hu hi => ⟨(isOf_v u).1 hi, hgl u hu⟩
  have nok : ∀ u ∈ l, isOf u 118 = true → ∀ w : Int, w = 1 ∨ w = 2 → Okn u (noun u w) w := fun u hu hi w hw => ih u hu (vb u hu hi).1 (vb u hu hi).2 w hw
  have ook : ∀ u ∈ l, isOf u 118 = true → ∀ w : Int, w = 1 ∨ w = 2 → Oko u (otherOf u w (noun u w)) := fun u hu hi w hw => other_ok (vb u hu hi).1 (vb u hu hi).2 hw (nok u hu hi w hw)
  have opk : ∀ u ∈ l, isOf u 111 = true → cls u.kind = 1 ∧ good u true = true := fun u hu hi => (operand_good u ((isOf_o u).1 hi) (hgl u hu)).symm
  rcases hk with rfl | hk
  · -- agenda
    obtain ⟨h2, h17, hall⟩ := kids_many hk2
    have hs := nouns_sum (l := l) (v := v) (fun t ht => nok t ht (hall t ht) v hv)
    have e : openOf 43 v l (nouns l v) (nouns l 1) (nouns l 2) = mk 5 (txt []) 0 [] [] (nouns l v) := by simp [openOf]
    rw [e]
    refine ⟨by simp only [nodes]; omega, by simp only [height]; omega, rfl, good_pick ?_ (by simpa [nouns_map] using h2) (by simpa [nouns_map] using h17)⟩
    intro u hu'
    rw [nouns_map, List.mem_map] at hu'
    obtain ⟨t, ht, rfl⟩ := hu'
    have := nok t ht (hall t ht) v hv
    exact ⟨this.2.2.2, this.2.2.1⟩
  · rw [pattern_of hk] at hk2
    rcases hk with rfl | rfl | rfl | rfl | rfl | rfl | rfl | rfl | rfl | rfl | rfl
    all_goals simp only [if_true, Int.reduceEq, if_false] at hk2
    · -- const
      obtain ⟨t, rfl, ht⟩ := kids_one hk2 (by decide)
      obtain ⟨h1, h2⟩ := opk t (by simp) ht
      have e : openOf 22 v [t] (nouns [t] v) (nouns [t] 1) (nouns [t] 2) = t := by simp [openOf]
      rw [e]
      simp only [nodesL, heightL] at hN hH
      exact ⟨by omega, by omega, h1, good_any t h2 _⟩
    · -- swap
      obtain ⟨t, rfl, ht⟩ := kids_one hk2 (by decide)
      obtain ⟨h1, h2, h3, h4⟩ := ook t (by simp) ht 2 g1
      have e : openOf 27 v [t] (nouns [t] v) (nouns [t] 1) (nouns [t] 2) = dyT (otherOf t 2 (noun t 2)) yT (leftT v) := by simp [openOf, nouns]
      rw [e]
      have hs := dy_size (otherOf t 2 (noun t 2)) yT (leftT v)
      simp only [nodesL, heightL] at hN hH
      exact ⟨by omega, by omega, rfl, good_dy (good_any _ h4 _) (good_y _) hgx h3 rfl hcx⟩
    all_goals first
      | (obtain ⟨t, u, x, rfl, ht, hu', hx'⟩ := kids_three hk2
         obtain ⟨h1, h2, h3, h4⟩ := ook u (by simp) hu' 2 g1
         obtain ⟨p1, p2, p3, p4⟩ := nok t (by simp) ht v hv
         obtain ⟨q1, q2, q3, q4⟩ := nok x (by simp) hx' v hv
         have e : openOf 45 v [t, u, x] (nouns [t, u, x] v) (nouns [t, u, x] 1) (nouns [t, u, x] 2) = dyT (otherOf u 2 (noun u 2)) (noun t v) (noun x v) := by simp [openOf, nouns]
         rw [e]
         have hs := dy_size (otherOf u 2 (noun u 2)) (noun t v) (noun x v)
         simp only [nodesL, heightL] at hN hH
         exact ⟨by omega, by omega, rfl, good_dy (good_any _ h4 _) p4 q4 h3 p3 q3⟩)
      | skip
    all_goals obtain ⟨t, u, rfl, ht, hu'⟩ := kids_two hk2 (by decide)
    all_goals simp only [nodesL, heightL] at hN hH
    · -- at
      obtain ⟨h1, h2, h3, h4⟩ := ook t (by simp) ht 1 g2
      obtain ⟨p1, p2, p3, p4⟩ := nok u (by simp) hu' v hv
      have e : openOf 29 v [t, u] (nouns [t, u] v) (nouns [t, u] 1) (nouns [t, u] 2) = monT (otherOf t 1 (noun t 1)) (noun u v) := by simp [openOf, nouns]
      rw [e]
      have hs := mon_size (otherOf t 1 (noun t 1)) (noun u v)
      exact ⟨by omega, by omega, rfl, good_mon (good_any _ h4 _) p4 h3 p3⟩
    · obtain ⟨h1, h2, h3, h4⟩ := ook t (by simp) ht 1 g2
      obtain ⟨p1, p2, p3, p4⟩ := nok u (by simp) hu' v hv
      have e : openOf 46 v [t, u] (nouns [t, u] v) (nouns [t, u] 1) (nouns [t, u] 2) = monT (otherOf t 1 (noun t 1)) (noun u v) := by simp [openOf, nouns]
      rw [e]
      have hs := mon_size (otherOf t 1 (noun t 1)) (noun u v)
      exact ⟨by omega, by omega, rfl, good_mon (good_any _ h4 _) p4 h3 p3⟩
    · obtain ⟨h1, h2, h3, h4⟩ := ook t (by simp) ht 1 g2
      obtain ⟨p1, p2, p3, p4⟩ := nok u (by simp) hu' v hv
      have e : openOf 31 v [t, u] (nouns [t, u] v) (nouns [t, u] 1) (nouns [t, u] 2) = monT (otherOf t 1 (noun t 1)) (noun u v) := by simp [openOf, nouns]
      rw [e]
      have hs := mon_size (otherOf t 1 (noun t 1)) (noun u v)
      exact ⟨by omega, by omega, rfl, good_mon (good_any _ h4 _) p4 h3 p3⟩
    · -- bond, left
      obtain ⟨o1, o2⟩ := opk t (by simp) ht
      obtain ⟨h1, h2, h3, h4⟩ := ook u (by simp) hu' 2 g1
      have e : openOf 39 v [t, u] (nouns [t, u] v) (nouns [t, u] 1) (nouns [t, u] 2) = dyT (otherOf u 2 (noun u 2)) t yT := by simp [openOf, nouns]
      rw [e]
      have hs := dy_size (otherOf u 2 (noun u 2)) t yT
      exact ⟨by omega, by omega, rfl, good_dy (good_any _ h4 _) (good_any _ o2 _) (good_y _) h3 o1 rfl⟩
    · -- bond, right
      obtain ⟨o1, o2⟩ := opk u (by simp) hu'
      obtain ⟨h1, h2, h3, h4⟩ := ook t (by simp) ht 2 g1
      have e : openOf 40 v [t, u] (nouns [t, u] v) (nouns [t, u] 1) (nouns [t, u] 2) = dyT (otherOf t 2 (noun t 2)) yT u := by simp [openOf, nouns]
      rw [e]
      have hs := dy_size (otherOf t 2 (noun t 2)) yT u
      exact ⟨by omega, by omega, rfl, good_dy (good_any _ h4 _) (good_y _) (good_any _ o2 _) h3 rfl o1⟩
    · -- hook
      obtain ⟨h1, h2, h3, h4⟩ := ook t (by simp) ht 2 g1
      obtain ⟨p1, p2, p3, p4⟩ := nok u (by simp) hu' 1 g2
      have e : openOf 44 v [t, u] (nouns [t, u] v) (nouns [t, u] 1) (nouns [t, u] 2) = dyT (otherOf t 2 (noun t 2)) (leftT v) (noun u 1) := by simp [openOf, nouns]
      rw [e]
      have hs := dy_size (otherOf t 2 (noun t 2)) (leftT v) (noun u 1)
      exact ⟨by omega, by omega, rfl, good_dy (good_any _ h4 _) hgx (good_any _ p4 _) h3 hcx p3⟩
    · -- obverse
      obtain ⟨p1, p2, p3, p4⟩ := nok t (by simp) ht v hv
      have e : openOf 36 v [t, u] (nouns [t, u] v) (nouns [t, u] 1) (nouns [t, u] 2) = noun t v := by simp [openOf, nouns]
      rw [e]
      exact ⟨by omega, by omega, p3, p4⟩
    · -- both
      obtain ⟨p1, p2, p3, p4⟩ := nok t (by simp) ht v hv
      obtain ⟨q1, q2, q3, q4⟩ := nok u (by simp) hu' v hv
      have e : openOf 37 v [t, u] (nouns [t, u] v) (nouns [t, u] 1) (nouns [t, u] 2) = if v = 2 then noun u v else noun t v := by
        simp [openOf, nouns]
      rw [e]
      split
      · exact ⟨by omega, by omega, q3, q4⟩
      · exact ⟨by omega, by omega, p3, p4⟩

/-- WHAT THE LAW SAYS, in plain Lean. -/
theorem of_ok (t : T) (v : Int) (h : ofE t v = 0) : may (ofT t v) 3 = 0 ∧ (ofT t v).nodes < 6 * t.nodes + 4 := by
  have h' := h
  unfold ofE at h
  split at h
  · omega
  rename_i hm
  split at h
  · omega
  rename_i hv
  split at h
  · omega
  rename_i hz
  have hv' : v = 1 ∨ v = 2 := by omega
  have hm' : may t 3 = 0 := by omega
  unfold may at hm'
  split at hm'
  · omega
  split at hm'
  · omega
  rename_i hf
  split at hm'
  · omega
  rename_i hg
  split at hm'
  · omega
  rename_i hc
  have hf' : t.fits := by simpa using hf
  have hg' : good t false = true := by simpa using hg
  have hc' : cls t.kind = 3 := by simpa using hc
  have hsz : t.nodes ≤ 320 ∧ t.height ≤ 32 := by
    simp only [sizeN, sizeD, if_pos hf'] at hz
    omega
  obtain ⟨n1, n2, n3, n4⟩ := noun_ok t hc' hg' v hv'
  have e : ofT t v = defT v (noun t v) := by simp [ofT, h']
  rw [e]
  have hs := def_size v (noun t v)
  refine ⟨?_, by omega⟩
  unfold may
  have hfits : (defT v (noun t v)).fits := ⟨by omega, by omega⟩
  rw [if_neg (by omega), if_neg (by simpa using hfits), if_neg (by rw [good_def hv' n4 n3 false]; simp), if_neg (by simp [defT, cls])]
end T
end Go.Proofs.YtnnhbpgpkpbinaaGreat
