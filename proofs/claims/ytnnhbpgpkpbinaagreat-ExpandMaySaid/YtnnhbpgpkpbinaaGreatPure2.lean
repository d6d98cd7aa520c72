/- What the package expand makes of a verb that may be is a verb that may be, not too great: in plain Lean. -/
import Derived.Test.YtnnhbpgpkpbinaaGreatPure
namespace Go.Proofs.YtnnhbpgpkpbinaaGreat
namespace T

theorem txt_list (l : List UInt8) : (txt l).data.toList = l := by simp [txt]
theorem good_mk (k s n sh a l al) : good (mk k s n sh a l) al = (node (mk k s n sh a l) al && goodL l (under (mk k s n sh a l) al)) := by simp [good]
theorem goodL_iff (l : List T) (al : Bool) : goodL l al = true ↔ ∀ t ∈ l, good t al = true := by
  induction l with
  | nil => simp [goodL]
  | cons t l ih => simp [goodL, ih]
theorem good_mono (t : T) : good t true = true → good t false = true := by
  refine T.ind (P := fun t => good t true = true → good t false = true) ?_ t
  intro k s n sh a l ih h
  rw [good_mk, Bool.and_eq_true] at h ⊢
  refine ⟨?_, ?_⟩
  · have h1 := h.1
    simp only [node, Bool.and_eq_true, Bool.true_and, Bool.false_and, Bool.not_false, and_true] at h1 ⊢
    exact h1.1
  · have h2 := h.2
    rw [goodL_iff] at h2 ⊢
    intro t ht
    have := h2 t ht
    simp only [under, kind] at this ⊢
    by_cases hk : k = 23
    · simp only [hk, if_true] at this ⊢; exact this
    · simp only [hk, if_false] at this ⊢; exact ih t ht this
theorem good_any (t : T) (h : good t true = true) (al : Bool) : good t al = true := by
  cases al
  · exact good_mono t h
  · exact h

/-- is it one of the letters' shapes? -/
theorem isOf_v (t : T) : isOf t 118 = true ↔ cls t.kind = 3 := by simp [isOf]
theorem isOf_o (t : T) : isOf t 111 = true ↔ operand t = true := by simp [isOf]
theorem isOf_b (t : T) : isOf t 98 = true ↔ t.kind = 14 := by simp [isOf]
theorem cls3 {k : Int} (h : cls k = 3) : 20 ≤ k ∧ k ≤ 46 := by
  unfold cls at h
  split at h
  · omega
  · split at h
    · omega
    · split at h
      · assumption
      · omega
theorem cls_of3 {k : Int} (h : 20 ≤ k ∧ k ≤ 46) : cls k = 3 := by
  unfold cls
  rw [if_neg (by omega), if_neg (by omega), if_pos h]

theorem allOf_nil {l : List T} (h : allOf l [] = true) : l = [] := by
  cases l with
  | nil => rfl
  | cons t l => simp [allOf] at h
theorem allOf_cons {l : List T} {c : UInt8} {p : List UInt8} (h : allOf l (c :: p) = true) : ∃ t r, l = t :: r ∧ isOf t c = true ∧ allOf r p = true := by
  cases l with
  | nil => simp [allOf] at h
  | cons t r => simp only [allOf, Bool.and_eq_true] at h; exact ⟨t, r, rfl, h.1, h.2⟩

theorem operand_good (t : T) (ho : operand t = true) (h : good t false = true) : good t true = true ∧ cls t.kind = 1 := by
  cases t with
  | mk k s n sh a l =>
    simp only [operand, operandK, kind, text, Bool.or_eq_true, Bool.and_eq_true, beq_iff_eq, bne_iff_ne] at ho
    have hk : k = 1 ∨ k = 2 := by rcases ho with h | h; exact .inl h; exact .inr h.1.1
    rw [good_mk, Bool.and_eq_true] at h
    have hn := h.1
    simp only [node, Bool.and_eq_true, Bool.false_and, Bool.not_false, and_true, kind, text] at hn
    have hl : l = [] := by
      have := hn.2
      rcases hk with rfl | rfl <;> simp only [kidsOk, kind, kids] at this <;> exact allOf_nil (by simpa [pattern, kidsFor] using this)
    subst hl
    refine ⟨?_, by rcases hk with rfl | rfl <;> simp [kind, cls]⟩
    rw [good_mk, Bool.and_eq_true]
    refine ⟨?_, by simp [goodL]⟩
    simp only [node, Bool.and_eq_true, Bool.true_and, kind, text]
    refine ⟨hn, ?_⟩
    rcases ho with rfl | ⟨⟨rfl, hx⟩, _⟩
    · simp
    · simp [hx]

theorem verb_pattern_fin : ∀ m : Fin 27, m.val ≠ 3 → ((pattern ((m.val + 20 : Nat) : Int)).all (fun c => c == 118 || c == 111) = true ∨ pattern ((m.val + 20 : Nat) : Int) = [118, 43]) := by decide
theorem verb_pattern {k : Int} (h : 20 ≤ k ∧ k ≤ 46) (hd : k ≠ 23) : (∀ c ∈ pattern k, c = 118 ∨ c = 111) ∨ pattern k = [118, 43] := by
  obtain ⟨m, rfl⟩ : ∃ m : Nat, k = ((m + 20 : Nat) : Int) := ⟨(k - 20).toNat, by omega⟩
  have := verb_pattern_fin ⟨m, by omega⟩ (by show m ≠ 3; omega)
  rcases this with h1 | h1
  · left
    intro c hc
    have := List.all_eq_true.1 h1 c hc
    simpa using this
  · exact .inr h1

/-- A verb that may be may be within a definition of one argument, too. -/
theorem verb_alone (t : T) : cls t.kind = 3 → good t false = true → good t true = true := by
  refine T.ind (P := fun t => cls t.kind = 3 → good t false = true → good t true = true) ?_ t
  intro k s n sh a l ih hc h
  have hk := cls3 hc
  simp only [kind] at hk
  rw [good_mk, Bool.and_eq_true] at h ⊢
  have hn := h.1
  simp only [node, Bool.and_eq_true, Bool.false_and, Bool.not_false, and_true, kind, text] at hn
  refine ⟨?_, ?_⟩
  · simp only [node, Bool.and_eq_true, Bool.true_and, kind, text]
    refine ⟨hn, ?_⟩
    have h2 : (k == 2) = false := by simp; omega
    have h11 : (k == 11) = false := by simp; omega
    simp [h2, h11]
  · have h2 := h.2
    simp only [under, kind] at h2 ⊢
    by_cases h23 : k = 23
    · simp only [h23, if_true] at h2 ⊢; exact h2
    · simp only [h23, if_false] at h2 ⊢
      rw [goodL_iff] at h2 ⊢
      have each : ∀ t ∈ l, isOf t 118 = true ∨ isOf t 111 = true := by
        have hp := hn.2
        simp only [kidsOk, kind, kids] at hp
        rcases verb_pattern hk h23 with hl | hpp
        · obtain ⟨p, hpp⟩ : ∃ p, pattern k = p := ⟨_, rfl⟩
          rw [hpp] at hp hl
          have n1 : p ≠ [115] := by rintro rfl; have := hl 115 (by simp); simp at this
          have n2 : p ≠ [110, 43] := by rintro rfl; have := hl 110 (by simp); simp at this
          have n3 : p ≠ [118, 43] := by rintro rfl; have := hl 43 (by simp); simp at this
          rw [kidsFor, if_neg n1, if_neg n2, if_neg n3] at hp
          clear n1 n2 n3 hpp h2 h hn ih hc
          induction p generalizing l with
          | nil => rw [allOf_nil hp]; simp
          | cons c p ihp =>
            obtain ⟨t, r, rfl, ht, hr⟩ := allOf_cons hp
            intro u hu
            cases hu with
            | head =>
              rcases hl c (by simp) with rfl | rfl
              · exact .inl ht
              · exact .inr ht
            | tail _ hu => exact ihp r (fun c hc => hl c (by simp [hc])) hr u hu
        · rw [hpp] at hp
          have hp' : (decide (2 ≤ l.length) && decide (l.length ≤ 17) && l.all (isOf · 118)) = true := hp
          simp only [Bool.and_eq_true, List.all_eq_true] at hp'
          intro t ht
          exact .inl (hp'.2 t ht)
      intro t ht
      rcases each t ht with hv | ho
      · exact ih t ht ((isOf_v t).1 hv) (h2 t ht)
      · exact (operand_good t ((isOf_o t).1 ho) (h2 t ht)).1
end T
end Go.Proofs.YtnnhbpgpkpbinaaGreat
