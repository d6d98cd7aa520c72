/- Package expand: noun. -/
import Derived.Test.YtnnhbpgpkpbinaaGreatMExpB
import Derived.Test.YtnnhbpgpkpbinaaGreatMOpenA
import Derived.Test.YtnnhbpgpkpbinaaGreatMOpenB
import Derived.Test.YtnnhbpgpkpbinaaGreatMOpenC
import Derived.Test.YtnnhbpgpkpbinaaGreatMOpen8
set_option linter.unusedVariables false
set_option linter.unusedSimpArgs false
namespace Go.Proofs.YtnnhbpgpkpbinaaGreat
open Go.RowKit

theorem enter1 (a : Array Value) (W : World) : (callFunc 48 a).run Tryz.prog W = .ok (.enter 48 a) W := by kernel_rfl
theorem enter2 (a : Array Value) (W : World) : (callFunc 51 a).run Tryz.prog W = .ok (.enter 51 a) W := by kernel_rfl
theorem enter3 (a : Array Value) (W : World) : (callFunc 53 a).run Tryz.prog W = .ok (.enter 53 a) W := by kernel_rfl
theorem enter4 (a : Array Value) (W : World) : (callFunc 57 a).run Tryz.prog W = .ok (.enter 57 a) W := by kernel_rfl
theorem enter5 (a : Array Value) (W : World) : (callFunc 58 a).run Tryz.prog W = .ok (.enter 58 a) W := by kernel_rfl
theorem enter6 (a : Array Value) (W : World) : (callFunc 59 a).run Tryz.prog W = .ok (.enter 59 a) W := by kernel_rfl
theorem enter7 (a : Array Value) (W : World) : (callFunc 60 a).run Tryz.prog W = .ok (.enter 60 a) W := by kernel_rfl
theorem enter8 (a : Array Value) (W : World) : (callFunc 61 a).run Tryz.prog W = .ok (.enter 61 a) W := by kernel_rfl
theorem enter9 (a : Array Value) (W : World) : (callFunc 62 a).run Tryz.prog W = .ok (.enter 62 a) W := by kernel_rfl
theorem enter10 (a : Array Value) (W : World) : (callFunc 63 a).run Tryz.prog W = .ok (.enter 63 a) W := by kernel_rfl
theorem op22 (cb : Nat) : opener cb 22 = .func (.func 51) #[] #[] := rfl
theorem op27 (cb : Nat) : opener cb 27 = .func (.func 53) #[] #[.pointer (some ⟨cb, 0, none⟩)] := rfl
theorem op29 (cb : Nat) : opener cb 29 = .func (.func 48) #[] #[.pointer (some ⟨cb, 0, none⟩)] := rfl
theorem op46 (cb : Nat) : opener cb 46 = .func (.func 48) #[] #[.pointer (some ⟨cb, 0, none⟩)] := rfl
theorem op31 (cb : Nat) : opener cb 31 = .func (.func 48) #[] #[.pointer (some ⟨cb, 0, none⟩)] := rfl
theorem op39 (cb : Nat) : opener cb 39 = .func (.func 57) #[] #[.pointer (some ⟨cb, 0, none⟩)] := rfl
theorem op40 (cb : Nat) : opener cb 40 = .func (.func 58) #[] #[.pointer (some ⟨cb, 0, none⟩)] := rfl
theorem op44 (cb : Nat) : opener cb 44 = .func (.func 59) #[] #[.pointer (some ⟨cb, 0, none⟩)] := rfl
theorem op45 (cb : Nat) : opener cb 45 = .func (.func 60) #[] #[.pointer (some ⟨cb, 0, none⟩)] := rfl
theorem op43 (cb : Nat) : opener cb 43 = .func (.func 61) #[] #[.pointer (some ⟨cb, 0, none⟩)] := rfl
theorem op36 (cb : Nat) : opener cb 36 = .func (.func 62) #[] #[.pointer (some ⟨cb, 0, none⟩)] := rfl
theorem op37 (cb : Nat) : opener cb 37 = .func (.func 63) #[] #[.pointer (some ⟨cb, 0, none⟩)] := rfl

theorem noun_open1 {x : TV} {v : Int} {eb mb cb j : Nat} {w : World} {u : T} (hd : (x.kind == 20) = false) (hE : ExpAt w eb mb cb) (hop : T.opensK x.kind x.text.data.toList v = true) (hw : Wee x)
    (ho : opener cb x.kind = .func (.func j) #[] #[.pointer (some ⟨cb, 0, none⟩)]) (hC : ∀ W, Below w.heap.size w W → Calls Tryz.prog j #[.slice x.ka x.kl x.kc, .int .i64 v, .pointer (some ⟨cb, 0, none⟩)] W (TwinPost u W)) (hj : ∀ (a : Array Value) (W : World), (callFunc j a).run Tryz.prog W = .ok (.enter j a) W) :
    Calls Tryz.prog 28 #[.pointer (some ⟨eb, 0, none⟩), x.val, .int .i64 v] w (TwinPost u w) :=
  noun_open hd hE hop hw ho (fun W h => by
    have e : (#[.slice x.ka x.kl x.kc, .int .i64 v] ++ #[.pointer (some ⟨cb, 0, none⟩)] : Array Value) = #[.slice x.ka x.kl x.kc, .int .i64 v, .pointer (some ⟨cb, 0, none⟩)] := by simp
    rw [e]; exact hC W h) hj
theorem noun_open0 {x : TV} {v : Int} {eb mb cb j : Nat} {w : World} {u : T} (hd : (x.kind == 20) = false) (hE : ExpAt w eb mb cb) (hop : T.opensK x.kind x.text.data.toList v = true) (hw : Wee x)
    (ho : opener cb x.kind = .func (.func j) #[] #[]) (hC : ∀ W, Below w.heap.size w W → Calls Tryz.prog j #[.slice x.ka x.kl x.kc, .int .i64 v] W (TwinPost u W)) (hj : ∀ (a : Array Value) (W : World), (callFunc j a).run Tryz.prog W = .ok (.enter j a) W) :
    Calls Tryz.prog 28 #[.pointer (some ⟨eb, 0, none⟩), x.val, .int .i64 v] w (TwinPost u w) :=
  noun_open hd hE hop hw ho (fun W h => by
    have e : (#[.slice x.ka x.kl x.kc, .int .i64 v] ++ #[] : Array Value) = #[.slice x.ka x.kl x.kc, .int .i64 v] := by simp
    rw [e]; exact hC W h) hj
/-- the kids of a term, each with its place -/
theorem kids1 {w : World} {B : Nat} {t u0 : T} {x : TV} (hr : Rep w B t x) (hl : t.kids = [u0]) : ∃ b o y0, x.ka = some ⟨b, o, none⟩ ∧ b < B ∧ At w b o y0 ∧ Rep w B u0 y0 ∧ x.kl = 1 := by
  obtain ⟨b, o, y0, e0, hb, a0, r0⟩ := hr.kid (j := 0) (u := u0) (by rw [hl]; rfl)
  rw [Nat.zero_mul, Nat.add_zero] at a0
  exact ⟨b, o, y0, e0, hb, a0, r0, by rw [hr.kl, hl]; rfl⟩
theorem kids2 {w : World} {B : Nat} {t u0 u1 : T} {x : TV} (hr : Rep w B t x) (hl : t.kids = [u0, u1]) : ∃ b o y0 y1, x.ka = some ⟨b, o, none⟩ ∧ b < B ∧ At w b o y0 ∧ Rep w B u0 y0 ∧ At w b (o + 6) y1 ∧ Rep w B u1 y1 ∧ x.kl = 2 := by
  obtain ⟨b, o, y0, e0, hb, a0, r0⟩ := hr.kid (j := 0) (u := u0) (by rw [hl]; rfl)
  obtain ⟨b', o', y1, e1, hb1, a1, r1⟩ := hr.kid (j := 1) (u := u1) (by rw [hl]; rfl)
  rw [e0] at e1
  cases e1
  rw [Nat.zero_mul, Nat.add_zero] at a0
  rw [Nat.one_mul] at a1
  exact ⟨b, o, y0, y1, e0, hb, a0, r0, a1, r1, by rw [hr.kl, hl]; rfl⟩
theorem kids3 {w : World} {B : Nat} {t u0 u1 u2 : T} {x : TV} (hr : Rep w B t x) (hl : t.kids = [u0, u1, u2]) : ∃ b o y0 y1 y2, x.ka = some ⟨b, o, none⟩ ∧ b < B ∧ At w b o y0 ∧ Rep w B u0 y0 ∧ At w b (o + 6) y1 ∧ Rep w B u1 y1 ∧ At w b (o + 12) y2 ∧ Rep w B u2 y2 ∧ x.kl = 3 := by
  obtain ⟨b, o, y0, e0, hb, a0, r0⟩ := hr.kid (j := 0) (u := u0) (by rw [hl]; rfl)
  obtain ⟨b', o', y1, e1, hb1, a1, r1⟩ := hr.kid (j := 1) (u := u1) (by rw [hl]; rfl)
  obtain ⟨b'', o'', y2, e2, hb2, a2, r2⟩ := hr.kid (j := 2) (u := u2) (by rw [hl]; rfl)
  rw [e0] at e1 e2
  cases e1
  cases e2
  rw [Nat.zero_mul, Nat.add_zero] at a0
  rw [Nat.one_mul] at a1
  exact ⟨b, o, y0, y1, y2, e0, hb, a0, r0, a1, r1, a2, r2, by rw [hr.kl, hl]; rfl⟩
theorem At.later {w W : World} {b o B : Nat} {x : TV} (h : At w b o x) (hb : b < B) (hB : B ≤ w.heap.size) (hw : Below w.heap.size w W) : At W b o x := h.keep hb (Keeps.of_below hw hB)
theorem ExpAt.later {w W : World} {eb mb cb : Nat} (h : ExpAt w eb mb cb) (hw : Below w.heap.size w W) : ExpAt W eb mb cb := h.below hw h.lt.1 h.lt.2.1 h.lt.2.2

theorem noun_all (t : T) : NounAll t := by
  refine T.ind (P := NounAll) ?_ t
  intro k s n sh a l ih hV x B v eb mb cb w hr hB hE h12
  have hkd : x.kind = k := hr.kind
  have htx : x.text = s := hr.text
  have htl : x.text.toList = s.data.toList := by rw [htx, ByteArray.toList_eq]
  have hopk : T.opens (.mk k s n sh a l) v = T.opensK x.kind x.text.data.toList v := by rw [T.opens, hkd, htx]; rfl
  rw [T.noun_cases]
  by_cases c1 : k = 20 ∧ s.data.toList = [93]
  · rw [if_pos c1]
    exact noun_right (hkd.trans c1.1) (by rw [htl, c1.2]; rfl)
  rw [if_neg c1]
  by_cases c2 : k = 20 ∧ s.data.toList = [91]
  · rw [if_pos c2]
    exact noun_left (hkd.trans c2.1) (by rw [htl, c2.2]; rfl) (by rw [htl, c2.2]; rfl)
  rw [if_neg c2]
  have hpast : Past x := by
    by_cases h20 : k = 20
    · refine .inr ⟨by rw [hkd, h20]; rfl, ?_, ?_⟩
      · rw [htl, beq_eq_false_iff_ne]; exact fun h => c1 ⟨h20, h⟩
      · rw [htl, beq_eq_false_iff_ne]; exact fun h => c2 ⟨h20, h⟩
    · exact .inl (by rw [hkd]; exact beq_false h20)
  cases hop : T.opens (.mk k s n sh a l) v
  · rw [if_neg (by decide)]
    exact noun_plain hpast hV.fits hr hB hE (by rw [← hopk]; exact hop) h12
  rw [if_pos rfl]
  have hop' : T.opensK x.kind x.text.data.toList v = true := by rw [← hopk]; exact hop
  have hg := hV.good
  rw [T.good_mk, Bool.and_eq_true] at hg
  have hn := hg.1
  simp only [T.node, Bool.and_eq_true, Bool.false_and, Bool.not_false, and_true, T.kind_mk, T.text_mk] at hn
  have hk2 : T.kidsFor (T.pattern k) l = true := hn.2
  have hgl := hg.2
  -- a kind of the table
  have hk : k = 43 ∨ k = 22 ∨ k = 27 ∨ k = 29 ∨ k = 46 ∨ k = 31 ∨ k = 39 ∨ k = 40 ∨ k = 44 ∨ k = 45 ∨ k = 36 ∨ k = 37 := by
    have ho : T.opensK k s.data.toList v = true := hop
    unfold T.opensK at ho
    split at ho
    · rename_i h20
      simp only [Bool.or_eq_true, beq_iff_eq] at ho
      rcases ho with h | h
      · exact absurd ⟨h20, h⟩ c2
      · exact absurd ⟨h20, h⟩ c1
    · split at ho
      · omega
      · simp only [Bool.or_eq_true, beq_iff_eq] at ho
        omega
  have h20 : (x.kind == 20) = false := by rw [hkd]; exact beq_false (by omega)
  have h23 : k ≠ 23 := by omega
  have hu : T.under (.mk k s n sh a l) false = false := by simp [T.under, h23]
  rw [hu, T.goodL_iff] at hgl
  have hf := hV.fits
  have fit : ∀ u ∈ l, u.fits := fun u hm => ⟨by have := T.nodes_mem hm; have := hf.1; simp only [T.nodes] at this; omega, by have := T.height_mem hm; have := hf.2; simp only [T.height] at this; omega⟩
  have vb : ∀ u ∈ l, T.isOf u 118 = true → Verb u := fun u hm hi => ⟨(T.isOf_v u).1 hi, hgl u hm, fit u hm⟩
  have oth : ∀ u ∈ l, OtherAll u := fun u hm => other_of (ih u hm)
  have hw := hr.wee
  have lt : ∀ {W : World}, Below w.heap.size w W → ∀ {b : Nat}, b < B → b < W.heap.size := fun h b hb => by have := h.size; omega
  rcases hk with rfl | hk
  · -- agenda
    obtain ⟨h2, h17, hall⟩ := T.kids_many hk2
    have e : T.openOf 43 v l (T.nouns l v) (T.nouns l 1) (T.nouns l 2) = T.mk 5 (T.txt []) 0 [] [] (T.nouns l v) := by simp [T.openOf]
    rw [e]
    exact noun_open1 h20 hE hop' hw (by rw [hkd]; exact op43 cb) (fun W h => agenda_calls (.mk 43 s n sh a l) x B v eb mb cb W (hr.below h hB) (Nat.le_trans hB h.size) h2 h17 (hE.later h) h12 (fun u hm => ⟨ih u hm, vb u hm (hall u hm)⟩)) enter8
  · rw [T.pattern_of hk] at hk2
    rcases hk with rfl | rfl | rfl | rfl | rfl | rfl | rfl | rfl | rfl | rfl | rfl
    all_goals simp only [if_true, Int.reduceEq, if_false] at hk2
    · obtain ⟨u0, rfl, ht⟩ := T.kids_one hk2 (by decide)
      obtain ⟨b, o, y0, he, hb, a0, r0, hkl⟩ := kids1 hr rfl
      have e : T.openOf 22 v [u0] (T.nouns [u0] v) (T.nouns [u0] 1) (T.nouns [u0] 2) = u0 := by simp [T.openOf]
      rw [e]
      refine noun_open0 h20 hE hop' hw (by rw [hkd]; exact op22 cb) (fun W h => ?_) enter2
      rw [he]
      exact const_calls u0 y0 b o x.kl x.kc B v W (lt h hb) (Nat.le_trans hB h.size) (by omega) (a0.later hb hB h) (r0.below h hB) (fit u0 (by simp))
    · obtain ⟨u0, rfl, ht⟩ := T.kids_one hk2 (by decide)
      obtain ⟨b, o, y0, he, hb, a0, r0, hkl⟩ := kids1 hr rfl
      have e : T.openOf 27 v [u0] (T.nouns [u0] v) (T.nouns [u0] 1) (T.nouns [u0] 2) = T.dyT (T.other u0 2) T.yT (T.leftT v) := by simp [T.openOf, T.nouns, T.other]
      rw [e]
      refine noun_open1 h20 hE hop' hw (by rw [hkd]; exact op27 cb) (fun W h => ?_) enter3
      rw [he]
      exact swap_calls u0 y0 b o x.kl x.kc B v eb mb cb W (lt h hb) (Nat.le_trans hB h.size) (by omega) (hE.later h) h12 (a0.later hb hB h) (r0.below h hB) (oth u0 (by simp)) (vb u0 (by simp) ht)
    · obtain ⟨u0, u1, rfl, ht, hu'⟩ := T.kids_two hk2 (by decide)
      obtain ⟨b, o, y0, y1, he, hb, a0, r0, a1, r1, hkl⟩ := kids2 hr rfl
      have e : T.openOf 29 v [u0, u1] (T.nouns [u0, u1] v) (T.nouns [u0, u1] 1) (T.nouns [u0, u1] 2) = T.monT (T.other u0 1) (T.noun u1 v) := by simp [T.openOf, T.nouns, T.other]
      rw [e]
      refine noun_open1 h20 hE hop' hw (by rw [hkd]; exact op29 cb) (fun W h => ?_) enter1
      rw [he]
      exact through_calls u0 u1 y0 y1 b o x.kl x.kc B v eb mb cb W (lt h hb) (Nat.le_trans hB h.size) (by omega) (hE.later h) h12 (a0.later hb hB h) (r0.below h hB) (a1.later hb hB h) (r1.below h hB) (oth u0 (by simp)) (vb u0 (by simp) ht) (ih u1 (by simp)) (vb u1 (by simp) hu')
    · obtain ⟨u0, u1, rfl, ht, hu'⟩ := T.kids_two hk2 (by decide)
      obtain ⟨b, o, y0, y1, he, hb, a0, r0, a1, r1, hkl⟩ := kids2 hr rfl
      have e : T.openOf 46 v [u0, u1] (T.nouns [u0, u1] v) (T.nouns [u0, u1] 1) (T.nouns [u0, u1] 2) = T.monT (T.other u0 1) (T.noun u1 v) := by simp [T.openOf, T.nouns, T.other]
      rw [e]
      refine noun_open1 h20 hE hop' hw (by rw [hkd]; exact op46 cb) (fun W h => ?_) enter1
      rw [he]
      exact through_calls u0 u1 y0 y1 b o x.kl x.kc B v eb mb cb W (lt h hb) (Nat.le_trans hB h.size) (by omega) (hE.later h) h12 (a0.later hb hB h) (r0.below h hB) (a1.later hb hB h) (r1.below h hB) (oth u0 (by simp)) (vb u0 (by simp) ht) (ih u1 (by simp)) (vb u1 (by simp) hu')
    · obtain ⟨u0, u1, rfl, ht, hu'⟩ := T.kids_two hk2 (by decide)
      obtain ⟨b, o, y0, y1, he, hb, a0, r0, a1, r1, hkl⟩ := kids2 hr rfl
      have e : T.openOf 31 v [u0, u1] (T.nouns [u0, u1] v) (T.nouns [u0, u1] 1) (T.nouns [u0, u1] 2) = T.monT (T.other u0 1) (T.noun u1 v) := by simp [T.openOf, T.nouns, T.other]
      rw [e]
      refine noun_open1 h20 hE hop' hw (by rw [hkd]; exact op31 cb) (fun W h => ?_) enter1
      rw [he]
      exact through_calls u0 u1 y0 y1 b o x.kl x.kc B v eb mb cb W (lt h hb) (Nat.le_trans hB h.size) (by omega) (hE.later h) h12 (a0.later hb hB h) (r0.below h hB) (a1.later hb hB h) (r1.below h hB) (oth u0 (by simp)) (vb u0 (by simp) ht) (ih u1 (by simp)) (vb u1 (by simp) hu')
    · obtain ⟨u0, u1, rfl, ht, hu'⟩ := T.kids_two hk2 (by decide)
      obtain ⟨b, o, y0, y1, he, hb, a0, r0, a1, r1, hkl⟩ := kids2 hr rfl
      have e : T.openOf 39 v [u0, u1] (T.nouns [u0, u1] v) (T.nouns [u0, u1] 1) (T.nouns [u0, u1] 2) = T.dyT (T.other u1 2) u0 T.yT := by simp [T.openOf, T.nouns, T.other]
      rw [e]
      refine noun_open1 h20 hE hop' hw (by rw [hkd]; exact op39 cb) (fun W h => ?_) enter4
      rw [he]
      exact bondL_calls u0 u1 y0 y1 b o x.kl x.kc B v eb mb cb W (lt h hb) (Nat.le_trans hB h.size) (by omega) (hE.later h) h12 (a0.later hb hB h) (r0.below h hB) (a1.later hb hB h) (r1.below h hB) (oth u1 (by simp)) (vb u1 (by simp) hu') (fit u0 (by simp))
    · obtain ⟨u0, u1, rfl, ht, hu'⟩ := T.kids_two hk2 (by decide)
      obtain ⟨b, o, y0, y1, he, hb, a0, r0, a1, r1, hkl⟩ := kids2 hr rfl
      have e : T.openOf 40 v [u0, u1] (T.nouns [u0, u1] v) (T.nouns [u0, u1] 1) (T.nouns [u0, u1] 2) = T.dyT (T.other u0 2) T.yT u1 := by simp [T.openOf, T.nouns, T.other]
      rw [e]
      refine noun_open1 h20 hE hop' hw (by rw [hkd]; exact op40 cb) (fun W h => ?_) enter5
      rw [he]
      exact bondR_calls u0 u1 y0 y1 b o x.kl x.kc B v eb mb cb W (lt h hb) (Nat.le_trans hB h.size) (by omega) (hE.later h) h12 (a0.later hb hB h) (r0.below h hB) (a1.later hb hB h) (r1.below h hB) (oth u0 (by simp)) (vb u0 (by simp) ht) (fit u1 (by simp))
    · obtain ⟨u0, u1, rfl, ht, hu'⟩ := T.kids_two hk2 (by decide)
      obtain ⟨b, o, y0, y1, he, hb, a0, r0, a1, r1, hkl⟩ := kids2 hr rfl
      have e : T.openOf 44 v [u0, u1] (T.nouns [u0, u1] v) (T.nouns [u0, u1] 1) (T.nouns [u0, u1] 2) = T.dyT (T.other u0 2) (T.leftT v) (T.noun u1 1) := by simp [T.openOf, T.nouns, T.other]
      rw [e]
      refine noun_open1 h20 hE hop' hw (by rw [hkd]; exact op44 cb) (fun W h => ?_) enter6
      rw [he]
      exact hook_calls u0 u1 y0 y1 b o x.kl x.kc B v eb mb cb W (lt h hb) (Nat.le_trans hB h.size) (by omega) (hE.later h) h12 (a0.later hb hB h) (r0.below h hB) (a1.later hb hB h) (r1.below h hB) (oth u0 (by simp)) (vb u0 (by simp) ht) (ih u1 (by simp)) (vb u1 (by simp) hu')
    · obtain ⟨u0, u1, u2, rfl, ht, hu', hx'⟩ := T.kids_three hk2
      obtain ⟨b, o, y0, y1, y2, he, hb, a0, r0, a1, r1, a2, r2, hkl⟩ := kids3 hr rfl
      have e : T.openOf 45 v [u0, u1, u2] (T.nouns [u0, u1, u2] v) (T.nouns [u0, u1, u2] 1) (T.nouns [u0, u1, u2] 2) = T.dyT (T.other u1 2) (T.noun u0 v) (T.noun u2 v) := by simp [T.openOf, T.nouns, T.other]
      rw [e]
      refine noun_open1 h20 hE hop' hw (by rw [hkd]; exact op45 cb) (fun W h => ?_) enter7
      rw [he]
      exact fork_calls u0 u1 u2 y0 y1 y2 b o x.kl x.kc B v eb mb cb W (lt h hb) (Nat.le_trans hB h.size) (by omega) (hE.later h) h12 (a0.later hb hB h) (r0.below h hB) (a1.later hb hB h) (r1.below h hB) (a2.later hb hB h) (r2.below h hB) (oth u1 (by simp)) (vb u1 (by simp) hu') (ih u0 (by simp)) (vb u0 (by simp) ht) (ih u2 (by simp)) (vb u2 (by simp) hx')
    · obtain ⟨u0, u1, rfl, ht, hu'⟩ := T.kids_two hk2 (by decide)
      obtain ⟨b, o, y0, y1, he, hb, a0, r0, a1, r1, hkl⟩ := kids2 hr rfl
      have e : T.openOf 36 v [u0, u1] (T.nouns [u0, u1] v) (T.nouns [u0, u1] 1) (T.nouns [u0, u1] 2) = T.noun u0 v := by simp [T.openOf, T.nouns]
      rw [e]
      refine noun_open1 h20 hE hop' hw (by rw [hkd]; exact op36 cb) (fun W h => ?_) enter9
      rw [he]
      exact obv_calls u0 y0 b o x.kl x.kc B v eb mb cb W (lt h hb) (Nat.le_trans hB h.size) (by omega) (hE.later h) h12 (a0.later hb hB h) (r0.below h hB) (ih u0 (by simp)) (vb u0 (by simp) ht)
    · obtain ⟨u0, u1, rfl, ht, hu'⟩ := T.kids_two hk2 (by decide)
      obtain ⟨b, o, y0, y1, he, hb, a0, r0, a1, r1, hkl⟩ := kids2 hr rfl
      rcases h12 with rfl | rfl
      · have e : T.openOf 37 1 [u0, u1] (T.nouns [u0, u1] 1) (T.nouns [u0, u1] 1) (T.nouns [u0, u1] 2) = T.noun u0 1 := by simp [T.openOf, T.nouns]
        rw [e]
        refine noun_open1 h20 hE hop' hw (by rw [hkd]; exact op37 cb) (fun W h => ?_) enter10
        rw [he]
        exact bothV1 u0 y0 b o x.kl x.kc B eb mb cb W (lt h hb) (Nat.le_trans hB h.size) (by omega) (hE.later h) (a0.later hb hB h) (r0.below h hB) (ih u0 (by simp)) (vb u0 (by simp) ht)
      · have e : T.openOf 37 2 [u0, u1] (T.nouns [u0, u1] 2) (T.nouns [u0, u1] 1) (T.nouns [u0, u1] 2) = T.noun u1 2 := by simp [T.openOf, T.nouns]
        rw [e]
        refine noun_open1 h20 hE hop' hw (by rw [hkd]; exact op37 cb) (fun W h => ?_) enter10
        rw [he]
        exact bothV2 u1 y1 b o x.kl x.kc B eb mb cb W (lt h hb) (Nat.le_trans hB h.size) (by omega) (hE.later h) (a1.later hb hB h) (r1.below h hB) (ih u1 (by simp)) (vb u1 (by simp) hu')
end Go.Proofs.YtnnhbpgpkpbinaaGreat
