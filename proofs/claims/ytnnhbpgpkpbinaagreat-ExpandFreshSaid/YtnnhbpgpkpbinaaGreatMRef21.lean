/- The document's answer, package abacusref25: Noun. -/
import Derived.Test.YtnnhbpgpkpbinaaGreatMRefNswap
import Derived.Test.YtnnhbpgpkpbinaaGreatMRefNat
import Derived.Test.YtnnhbpgpkpbinaaGreatMRefNcap
import Derived.Test.YtnnhbpgpkpbinaaGreatMRefNC
import Derived.Test.YtnnhbpgpkpbinaaGreatMRefNhook
import Derived.Test.YtnnhbpgpkpbinaaGreatMRefNfork
import Derived.Test.YtnnhbpgpkpbinaaGreatMRefNB
import Derived.Test.YtnnhbpgpkpbinaaGreatMRefNA
import Derived.Test.YtnnhbpgpkpbinaaGreatMRefNagenda
import Derived.Test.YtnnhbpgpkpbinaaGreatMExp9
set_option linter.unusedVariables false
set_option linter.unusedSimpArgs false
namespace Go.Proofs.YtnnhbpgpkpbinaaGreat
open Go.RowKit

theorem KidsS.of_rep {w : World} {S : Nat → Prop} {t : T} {x : TV} (h : RepS w S t x) (h0 : 0 < x.kl) : ∃ b o, x.ka = some ⟨b, o, none⟩ ∧ S b ∧ KidsS w S b o t.kids := by
  have hl := h.kl
  obtain ⟨b, o, y, e, hb, _, _⟩ := h.kid (j := 0) (u := t.kids[0]'(by omega)) (by simp)
  refine ⟨b, o, e, hb, fun j u hj => ?_⟩
  obtain ⟨b', o', y', e', _, hat, hr⟩ := h.kid hj
  rw [e] at e'
  cases e'
  exact ⟨y', hat, hr⟩
theorem kidS0 {w : World} {S : Nat → Prop} {b o : Nat} {l : List T} (h : KidsS w S b o l) {u : T} (hu : l[0]? = some u) : ∃ y, At w b o y ∧ RepS w S u y := by
  have := h 0 u hu
  simpa using this
theorem kidS1 {w : World} {S : Nat → Prop} {b o : Nat} {l : List T} (h : KidsS w S b o l) {u : T} (hu : l[1]? = some u) : ∃ y, At w b (o + 6) y ∧ RepS w S u y := by
  have := h 1 u hu
  simpa using this
theorem kidS2 {w : World} {S : Nat → Prop} {b o : Nat} {l : List T} (h : KidsS w S b o l) {u : T} (hu : l[2]? = some u) : ∃ y, At w b (o + 12) y ∧ RepS w S u y := by
  have := h 2 u hu
  simpa using this

theorem noun_ref (t : T) : NounRef t := by
  refine T.ind (P := NounRef) ?_ t
  intro k s n sh a l ih hV x v w S hS hr h12
  have hkd : x.kind = k := hr.kind
  have htx : x.text = s := hr.text
  have htl : x.text.toList = s.data.toList := by rw [htx, ByteArray.toList_eq]
  have hopk : T.opens (.mk k s n sh a l) v = T.opensK x.kind x.text.data.toList v := by rw [T.opens, hkd, htx]; rfl
  rw [T.noun_cases]
  cases hop : T.opens (.mk k s n sh a l) v
  · have hop' : T.opensK x.kind x.text.data.toList v = false := by rw [← hopk]; exact hop
    have c1 : ¬ (k = 20 ∧ s.data.toList = [93]) := fun c => by
      have h := hop
      rw [T.opens, T.opensK] at h
      simp [c.1, c.2] at h
    have c2 : ¬ (k = 20 ∧ s.data.toList = [91]) := fun c => by
      have h := hop
      rw [T.opens, T.opensK] at h
      simp [c.1, c.2] at h
    rw [if_neg c1, if_neg c2, if_neg (by decide)]
    rcases h12 with rfl | rfl
    · rw [if_neg (by decide)]
      exact rnoun_plain_1 _ x w S hS hr hop'
    · rw [if_pos rfl]
      exact rnoun_plain_2 _ x w S hS hr hop'
  have hop' : T.opensK x.kind x.text.data.toList v = true := by rw [← hopk]; exact hop
  by_cases c1 : k = 20 ∧ s.data.toList = [93]
  · rw [if_pos c1]
    have hxt : (x.text.toList == [93]) = true := by rw [htl, c1.2]; rfl
    obtain ⟨xk, xt, xn, sa, sl, sc, aa, al, ac, ka, kl, kc⟩ := x
    simp only at hkd hop' hxt
    obtain rfl : xk = 20 := hkd.trans c1.1
    rcases h12 with rfl | rfl
    · exact rnoun_right_1 xt xn sa sl sc aa al ac ka kl kc w S hS hxt hop'
    · exact rnoun_right_2 xt xn sa sl sc aa al ac ka kl kc w S hS hxt hop'
  rw [if_neg c1]
  by_cases c2 : k = 20 ∧ s.data.toList = [91]
  · rw [if_pos c2]
    have hxt : (x.text.toList == [93]) = false := by rw [htl, c2.2]; rfl
    obtain ⟨xk, xt, xn, sa, sl, sc, aa, al, ac, ka, kl, kc⟩ := x
    simp only at hkd hop' hxt
    obtain rfl : xk = 20 := hkd.trans c2.1
    rcases h12 with rfl | rfl
    · exact rnoun_left_1 xt xn sa sl sc aa al ac ka kl kc w S hS hxt hop'
    · exact rnoun_left_2 xt xn sa sl sc aa al ac ka kl kc w S hS hxt hop'
  rw [if_neg c2, if_pos rfl]
  have hg := hV.good
  rw [T.good_mk, Bool.and_eq_true] at hg
  have hn := hg.1
  simp only [T.node, Bool.and_eq_true, Bool.false_and, Bool.not_false, and_true, T.kind_mk, T.text_mk] at hn
  have hk2 : T.kidsFor (T.pattern k) l = true := hn.2
  have hgl := hg.2
  -- a kind of the table
  have hk : k = 43 ∨ k = 22 ∨ k = 27 ∨ k = 29 ∨ k = 46 ∨ k = 31 ∨ k = 39 ∨ k = 40 ∨ k = 44 ∨ k = 45 ∨ k = 36 ∨ k = 37 := by
    have ho : T.opensK k s.data.toList v = true := hop
    unfold T.opensK at ho
    split at ho
    · rename_i h20
      simp only [Bool.or_eq_true, beq_iff_eq] at ho
      rcases ho with h | h
      · exact absurd ⟨h20, h⟩ c2
      · exact absurd ⟨h20, h⟩ c1
    · split at ho
      · omega
      · simp only [Bool.or_eq_true, beq_iff_eq] at ho
        omega
  have h23 : k ≠ 23 := by omega
  have hu : T.under (.mk k s n sh a l) false = false := by simp [T.under, h23]
  rw [hu, T.goodL_iff] at hgl
  have hf := hV.fits
  have fit : ∀ u ∈ l, u.fits := fun u hm => ⟨by have := T.nodes_mem hm; have := hf.1; simp only [T.nodes] at this; omega, by have := T.height_mem hm; have := hf.2; simp only [T.height] at this; omega⟩
  have vb : ∀ u ∈ l, T.isOf u 118 = true → Verb u := fun u hm hi => ⟨(T.isOf_v u).1 hi, hgl u hm, fit u hm⟩
  have hxl := hr.kl
  simp only [T.kids_mk] at hxl
  have hkids : 0 < x.kl → ∃ b o, x.ka = some ⟨b, o, none⟩ ∧ S b ∧ KidsS w S b o l := fun h => KidsS.of_rep hr h
  obtain ⟨xk, xt, xn, sa, sl, sc, aa, al, ac, ka, kl, kc⟩ := x
  simp only at hkd htx hxl hkids hop'
  subst hkd
  have hv1 : (xk = 31 ∨ xk = 39 ∨ xk = 40) → v = 1 := fun h => by
    rw [T.opensK, if_neg (by omega), if_pos h] at hop'
    simpa using hop'
  rcases hk with rfl | hk
  · -- agenda
    obtain ⟨h2, h17, hall⟩ := T.kids_many hk2
    obtain ⟨b, o, rfl, hb, hks⟩ := hkids (by omega)
    have e : T.openOf 43 v l (T.nouns l v) (T.nouns l 1) (T.nouns l 2) = T.mk 5 (T.txt []) 0 [] [] (T.nouns l v) := by simp [T.openOf]
    rw [e]
    rcases h12 with rfl | rfl
    · exact rnoun_agenda43_1 l xt xn sa sl sc aa al ac b o kl kc w S hS (hS b hb) hxl (by omega) (by omega) hks (fun u hm => ⟨ih u hm, vb u hm (hall u hm)⟩)
    · exact rnoun_agenda43_2 l xt xn sa sl sc aa al ac b o kl kc w S hS (hS b hb) hxl (by omega) (by omega) hks (fun u hm => ⟨ih u hm, vb u hm (hall u hm)⟩)
  · rw [T.pattern_of hk] at hk2
    rcases hk with rfl | rfl | rfl | rfl | rfl | rfl | rfl | rfl | rfl | rfl | rfl
    all_goals simp only [if_true, Int.reduceEq, if_false] at hk2
    · obtain ⟨u0, rfl, t0⟩ := T.kids_one hk2 (by decide)
      simp only [List.length_cons, List.length_nil] at hxl
      obtain ⟨b, o, rfl, hb, hks⟩ := hkids (by omega)
      obtain ⟨y0, a0, r0⟩ := kidS0 hks (u := u0) rfl
      rcases h12 with rfl | rfl
      · have e : T.openOf 22 1 [u0] (T.nouns [u0] 1) (T.nouns [u0] 1) (T.nouns [u0] 2) = u0 := by simp [T.openOf, T.nouns, T.other]
        rw [e]
        exact rnoun_const22_1 u0 y0 xt xn sa sl sc aa al ac b o kl kc w S hS (hS b hb) (by omega) a0 r0
      · have e : T.openOf 22 2 [u0] (T.nouns [u0] 2) (T.nouns [u0] 1) (T.nouns [u0] 2) = u0 := by simp [T.openOf, T.nouns, T.other]
        rw [e]
        exact rnoun_const22_2 u0 y0 xt xn sa sl sc aa al ac b o kl kc w S hS (hS b hb) (by omega) a0 r0
    · obtain ⟨u0, rfl, t0⟩ := T.kids_one hk2 (by decide)
      simp only [List.length_cons, List.length_nil] at hxl
      obtain ⟨b, o, rfl, hb, hks⟩ := hkids (by omega)
      obtain ⟨y0, a0, r0⟩ := kidS0 hks (u := u0) rfl
      rcases h12 with rfl | rfl
      · have e : T.openOf 27 1 [u0] (T.nouns [u0] 1) (T.nouns [u0] 1) (T.nouns [u0] 2) = T.dyT (T.other u0 2) T.yT (T.leftT 1) := by simp [T.openOf, T.nouns, T.other]
        rw [e]
        exact rnoun_swap27_1 u0 y0 xt xn sa sl sc aa al ac b o kl kc w S hS (hS b hb) (by omega) a0 r0 (ih u0 (by simp)) (vb u0 (by simp) t0)
      · have e : T.openOf 27 2 [u0] (T.nouns [u0] 2) (T.nouns [u0] 1) (T.nouns [u0] 2) = T.dyT (T.other u0 2) T.yT (T.leftT 2) := by simp [T.openOf, T.nouns, T.other]
        rw [e]
        exact rnoun_swap27_2 u0 y0 xt xn sa sl sc aa al ac b o kl kc w S hS (hS b hb) (by omega) a0 r0 (ih u0 (by simp)) (vb u0 (by simp) t0)
    · obtain ⟨u0, u1, rfl, t0, t1⟩ := T.kids_two hk2 (by decide)
      simp only [List.length_cons, List.length_nil] at hxl
      obtain ⟨b, o, rfl, hb, hks⟩ := hkids (by omega)
      obtain ⟨y0, a0, r0⟩ := kidS0 hks (u := u0) rfl
      obtain ⟨y1, a1, r1⟩ := kidS1 hks (u := u1) rfl
      rcases h12 with rfl | rfl
      · have e : T.openOf 29 1 [u0, u1] (T.nouns [u0, u1] 1) (T.nouns [u0, u1] 1) (T.nouns [u0, u1] 2) = T.monT (T.other u0 1) (T.noun u1 1) := by simp [T.openOf, T.nouns, T.other]
        rw [e]
        exact rnoun_at29_1 u0 u1 y0 y1 xt xn sa sl sc aa al ac b o kl kc w S hS (hS b hb) (by omega) a0 r0 a1 r1 (ih u0 (by simp)) (vb u0 (by simp) t0) (ih u1 (by simp)) (vb u1 (by simp) t1)
      · have e : T.openOf 29 2 [u0, u1] (T.nouns [u0, u1] 2) (T.nouns [u0, u1] 1) (T.nouns [u0, u1] 2) = T.monT (T.other u0 1) (T.noun u1 2) := by simp [T.openOf, T.nouns, T.other]
        rw [e]
        exact rnoun_at29_2 u0 u1 y0 y1 xt xn sa sl sc aa al ac b o kl kc w S hS (hS b hb) (by omega) a0 r0 a1 r1 (ih u0 (by simp)) (vb u0 (by simp) t0) (ih u1 (by simp)) (vb u1 (by simp) t1)
    · obtain ⟨u0, u1, rfl, t0, t1⟩ := T.kids_two hk2 (by decide)
      simp only [List.length_cons, List.length_nil] at hxl
      obtain ⟨b, o, rfl, hb, hks⟩ := hkids (by omega)
      obtain ⟨y0, a0, r0⟩ := kidS0 hks (u := u0) rfl
      obtain ⟨y1, a1, r1⟩ := kidS1 hks (u := u1) rfl
      rcases h12 with rfl | rfl
      · have e : T.openOf 46 1 [u0, u1] (T.nouns [u0, u1] 1) (T.nouns [u0, u1] 1) (T.nouns [u0, u1] 2) = T.monT (T.other u0 1) (T.noun u1 1) := by simp [T.openOf, T.nouns, T.other]
        rw [e]
        exact rnoun_cap46_1 u0 u1 y0 y1 xt xn sa sl sc aa al ac b o kl kc w S hS (hS b hb) (by omega) a0 r0 a1 r1 (ih u0 (by simp)) (vb u0 (by simp) t0) (ih u1 (by simp)) (vb u1 (by simp) t1)
      · have e : T.openOf 46 2 [u0, u1] (T.nouns [u0, u1] 2) (T.nouns [u0, u1] 1) (T.nouns [u0, u1] 2) = T.monT (T.other u0 1) (T.noun u1 2) := by simp [T.openOf, T.nouns, T.other]
        rw [e]
        exact rnoun_cap46_2 u0 u1 y0 y1 xt xn sa sl sc aa al ac b o kl kc w S hS (hS b hb) (by omega) a0 r0 a1 r1 (ih u0 (by simp)) (vb u0 (by simp) t0) (ih u1 (by simp)) (vb u1 (by simp) t1)
    · obtain ⟨u0, u1, rfl, t0, t1⟩ := T.kids_two hk2 (by decide)
      simp only [List.length_cons, List.length_nil] at hxl
      obtain ⟨b, o, rfl, hb, hks⟩ := hkids (by omega)
      obtain ⟨y0, a0, r0⟩ := kidS0 hks (u := u0) rfl
      obtain ⟨y1, a1, r1⟩ := kidS1 hks (u := u1) rfl
      obtain rfl := hv1 (by decide)
      have e : T.openOf 31 1 [u0, u1] (T.nouns [u0, u1] 1) (T.nouns [u0, u1] 1) (T.nouns [u0, u1] 2) = T.monT (T.other u0 1) (T.noun u1 1) := by simp [T.openOf, T.nouns, T.other]
      rw [e]
      exact rnoun_app31_1 u0 u1 y0 y1 xt xn sa sl sc aa al ac b o kl kc w S hS (hS b hb) (by omega) a0 r0 a1 r1 (ih u0 (by simp)) (vb u0 (by simp) t0) (ih u1 (by simp)) (vb u1 (by simp) t1)
    · obtain ⟨u0, u1, rfl, t0, t1⟩ := T.kids_two hk2 (by decide)
      simp only [List.length_cons, List.length_nil] at hxl
      obtain ⟨b, o, rfl, hb, hks⟩ := hkids (by omega)
      obtain ⟨y0, a0, r0⟩ := kidS0 hks (u := u0) rfl
      obtain ⟨y1, a1, r1⟩ := kidS1 hks (u := u1) rfl
      obtain rfl := hv1 (by decide)
      have e : T.openOf 39 1 [u0, u1] (T.nouns [u0, u1] 1) (T.nouns [u0, u1] 1) (T.nouns [u0, u1] 2) = T.dyT (T.other u1 2) u0 T.yT := by simp [T.openOf, T.nouns, T.other]
      rw [e]
      exact rnoun_bondl39_1 u0 u1 y0 y1 xt xn sa sl sc aa al ac b o kl kc w S hS (hS b hb) (by omega) a0 r0 a1 r1 (ih u1 (by simp)) (vb u1 (by simp) t1)
    · obtain ⟨u0, u1, rfl, t0, t1⟩ := T.kids_two hk2 (by decide)
      simp only [List.length_cons, List.length_nil] at hxl
      obtain ⟨b, o, rfl, hb, hks⟩ := hkids (by omega)
      obtain ⟨y0, a0, r0⟩ := kidS0 hks (u := u0) rfl
      obtain ⟨y1, a1, r1⟩ := kidS1 hks (u := u1) rfl
      obtain rfl := hv1 (by decide)
      have e : T.openOf 40 1 [u0, u1] (T.nouns [u0, u1] 1) (T.nouns [u0, u1] 1) (T.nouns [u0, u1] 2) = T.dyT (T.other u0 2) T.yT u1 := by simp [T.openOf, T.nouns, T.other]
      rw [e]
      exact rnoun_bondr40_1 u0 u1 y0 y1 xt xn sa sl sc aa al ac b o kl kc w S hS (hS b hb) (by omega) a0 r0 a1 r1 (ih u0 (by simp)) (vb u0 (by simp) t0)
    · obtain ⟨u0, u1, rfl, t0, t1⟩ := T.kids_two hk2 (by decide)
      simp only [List.length_cons, List.length_nil] at hxl
      obtain ⟨b, o, rfl, hb, hks⟩ := hkids (by omega)
      obtain ⟨y0, a0, r0⟩ := kidS0 hks (u := u0) rfl
      obtain ⟨y1, a1, r1⟩ := kidS1 hks (u := u1) rfl
      rcases h12 with rfl | rfl
      · have e : T.openOf 44 1 [u0, u1] (T.nouns [u0, u1] 1) (T.nouns [u0, u1] 1) (T.nouns [u0, u1] 2) = T.dyT (T.other u0 2) (T.leftT 1) (T.noun u1 1) := by simp [T.openOf, T.nouns, T.other]
        rw [e]
        exact rnoun_hook44_1 u0 u1 y0 y1 xt xn sa sl sc aa al ac b o kl kc w S hS (hS b hb) (by omega) a0 r0 a1 r1 (ih u0 (by simp)) (vb u0 (by simp) t0) (ih u1 (by simp)) (vb u1 (by simp) t1)
      · have e : T.openOf 44 2 [u0, u1] (T.nouns [u0, u1] 2) (T.nouns [u0, u1] 1) (T.nouns [u0, u1] 2) = T.dyT (T.other u0 2) (T.leftT 2) (T.noun u1 1) := by simp [T.openOf, T.nouns, T.other]
        rw [e]
        exact rnoun_hook44_2 u0 u1 y0 y1 xt xn sa sl sc aa al ac b o kl kc w S hS (hS b hb) (by omega) a0 r0 a1 r1 (ih u0 (by simp)) (vb u0 (by simp) t0) (ih u1 (by simp)) (vb u1 (by simp) t1)
    · obtain ⟨u0, u1, u2, rfl, t0, t1, t2⟩ := T.kids_three hk2
      simp only [List.length_cons, List.length_nil] at hxl
      obtain ⟨b, o, rfl, hb, hks⟩ := hkids (by omega)
      obtain ⟨y0, a0, r0⟩ := kidS0 hks (u := u0) rfl
      obtain ⟨y1, a1, r1⟩ := kidS1 hks (u := u1) rfl
      obtain ⟨y2, a2, r2⟩ := kidS2 hks (u := u2) rfl
      rcases h12 with rfl | rfl
      · have e : T.openOf 45 1 [u0, u1, u2] (T.nouns [u0, u1, u2] 1) (T.nouns [u0, u1, u2] 1) (T.nouns [u0, u1, u2] 2) = T.dyT (T.other u1 2) (T.noun u0 1) (T.noun u2 1) := by simp [T.openOf, T.nouns, T.other]
        rw [e]
        exact rnoun_fork45_1 u0 u1 u2 y0 y1 y2 xt xn sa sl sc aa al ac b o kl kc w S hS (hS b hb) (by omega) a0 r0 a1 r1 a2 r2 (ih u1 (by simp)) (vb u1 (by simp) t1) (ih u0 (by simp)) (vb u0 (by simp) t0) (ih u2 (by simp)) (vb u2 (by simp) t2)
      · have e : T.openOf 45 2 [u0, u1, u2] (T.nouns [u0, u1, u2] 2) (T.nouns [u0, u1, u2] 1) (T.nouns [u0, u1, u2] 2) = T.dyT (T.other u1 2) (T.noun u0 2) (T.noun u2 2) := by simp [T.openOf, T.nouns, T.other]
        rw [e]
        exact rnoun_fork45_2 u0 u1 u2 y0 y1 y2 xt xn sa sl sc aa al ac b o kl kc w S hS (hS b hb) (by omega) a0 r0 a1 r1 a2 r2 (ih u1 (by simp)) (vb u1 (by simp) t1) (ih u0 (by simp)) (vb u0 (by simp) t0) (ih u2 (by simp)) (vb u2 (by simp) t2)
    · obtain ⟨u0, u1, rfl, t0, t1⟩ := T.kids_two hk2 (by decide)
      simp only [List.length_cons, List.length_nil] at hxl
      obtain ⟨b, o, rfl, hb, hks⟩ := hkids (by omega)
      obtain ⟨y0, a0, r0⟩ := kidS0 hks (u := u0) rfl
      obtain ⟨y1, a1, r1⟩ := kidS1 hks (u := u1) rfl
      rcases h12 with rfl | rfl
      · have e : T.openOf 36 1 [u0, u1] (T.nouns [u0, u1] 1) (T.nouns [u0, u1] 1) (T.nouns [u0, u1] 2) = T.noun u0 1 := by simp [T.openOf, T.nouns, T.other]
        rw [e]
        exact rnoun_obv36_1 u0 y0 xt xn sa sl sc aa al ac b o kl kc w S hS (hS b hb) (by omega) a0 r0 (ih u0 (by simp)) (vb u0 (by simp) t0)
      · have e : T.openOf 36 2 [u0, u1] (T.nouns [u0, u1] 2) (T.nouns [u0, u1] 1) (T.nouns [u0, u1] 2) = T.noun u0 2 := by simp [T.openOf, T.nouns, T.other]
        rw [e]
        exact rnoun_obv36_2 u0 y0 xt xn sa sl sc aa al ac b o kl kc w S hS (hS b hb) (by omega) a0 r0 (ih u0 (by simp)) (vb u0 (by simp) t0)
    · obtain ⟨u0, u1, rfl, t0, t1⟩ := T.kids_two hk2 (by decide)
      simp only [List.length_cons, List.length_nil] at hxl
      obtain ⟨b, o, rfl, hb, hks⟩ := hkids (by omega)
      obtain ⟨y0, a0, r0⟩ := kidS0 hks (u := u0) rfl
      obtain ⟨y1, a1, r1⟩ := kidS1 hks (u := u1) rfl
      rcases h12 with rfl | rfl
      · have e : T.openOf 37 1 [u0, u1] (T.nouns [u0, u1] 1) (T.nouns [u0, u1] 1) (T.nouns [u0, u1] 2) = T.noun u0 1 := by simp [T.openOf, T.nouns, T.other]
        rw [e]
        exact rnoun_both37_1 u0 y0 xt xn sa sl sc aa al ac b o kl kc w S hS (hS b hb) (by omega) a0 r0 (ih u0 (by simp)) (vb u0 (by simp) t0)
      · have e : T.openOf 37 2 [u0, u1] (T.nouns [u0, u1] 2) (T.nouns [u0, u1] 1) (T.nouns [u0, u1] 2) = T.noun u1 2 := by simp [T.openOf, T.nouns, T.other]
        rw [e]
        exact rnoun_both37_2 u1 y1 xt xn sa sl sc aa al ac b o kl kc w S hS (hS b hb) (by omega) a1 r1 (ih u1 (by simp)) (vb u1 (by simp) t1)
end Go.Proofs.YtnnhbpgpkpbinaaGreat
