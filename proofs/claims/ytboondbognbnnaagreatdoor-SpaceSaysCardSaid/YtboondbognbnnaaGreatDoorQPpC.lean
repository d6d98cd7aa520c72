/- Terms that may be are made as print takes them to be; what is written of them is read back. The plain laws of what print writes: read as a verb or a noun, as a line, between brackets. The plain laws of what print writes: a sentence behind blanks, ahead of a remark. -/
import Derived.Test.YtboondbognbnnaaGreatDoorQPpB
import Derived.Test.YtboondbognbnnaaGreatDoorQPzA
set_option linter.unusedVariables false
set_option linter.unusedSimpArgs false
namespace Go.Proofs.YtboondbognbnnaaGreatDoor
namespace Pp
open Pz
mutual
/-- are all numbers within 64 bits? -/
def rng : T → Bool
  | .mk _ _ _ _ a l => a.all inRange && rngL l
def rngL : List T → Bool
  | [] => true
  | t :: l => rng t && rngL l
end
theorem rngL_mem {l : List T} (h : rngL l = true) : ∀ x ∈ l, rng x = true := by
  induction l with
  | nil => intro x hx; cases hx
  | cons t l ih =>
    simp only [rngL, Bool.and_eq_true] at h
    intro x hx
    rcases List.mem_cons.1 hx with rfl | hx
    · exact h.1
    · exact ih h.2 x hx
theorem goodL_mem {l : List T} {b : Bool} (h : T.goodL l b = true) : ∀ x ∈ l, T.good x b = true := by
  induction l with
  | nil => intro x hx; cases hx
  | cons t l ih =>
    simp only [T.goodL, Bool.and_eq_true] at h
    intro x hx
    rcases List.mem_cons.1 hx with rfl | hx
    · exact h.1
    · exact ih h.2 x hx
theorem text_nil {s : ByteArray} (h : s.data.toList.isEmpty = true) : s = E := by
  obtain ⟨⟨l⟩⟩ := s
  simp only [List.isEmpty_iff] at h
  subst h; rfl
theorem all1 {l : List T} {c : UInt8} (h : T.allOf l [c] = true) : ∃ u, l = [u] ∧ T.isOf u c = true := by
  match l with
  | [] => simp [T.allOf] at h
  | [u] => exact ⟨u, rfl, by simpa [T.allOf] using h⟩
  | u :: v :: l => simp [T.allOf] at h
theorem all2 {l : List T} {c d : UInt8} (h : T.allOf l [c, d] = true) : ∃ u v, l = [u, v] ∧ T.isOf u c = true ∧ T.isOf v d = true := by
  match l with
  | [] => simp [T.allOf] at h
  | u :: l =>
    simp only [T.allOf, Bool.and_eq_true] at h
    obtain ⟨v, rfl, hv⟩ := all1 h.2
    exact ⟨u, v, rfl, h.1, hv⟩
theorem all3 {l : List T} {c d e : UInt8} (h : T.allOf l [c, d, e] = true) : ∃ u v z, l = [u, v, z] ∧ T.isOf u c = true ∧ T.isOf v d = true ∧ T.isOf z e = true := by
  match l with
  | [] => simp [T.allOf] at h
  | u :: l =>
    simp only [T.allOf, Bool.and_eq_true] at h
    obtain ⟨v, z, rfl, hv⟩ := all2 h.2
    exact ⟨u, v, z, rfl, h.1, hv⟩
theorem all0 {l : List T} (h : T.allOf l [] = true) : l = [] := by
  cases l with
  | nil => rfl
  | cons u l => simp [T.allOf] at h
/-- what a kid of a class is made of -/
def Kid (x : T) : Prop := (T.cls x.kind = 3 → G 0 x) ∧ (T.cls x.kind = 1 → G 1 x) ∧ (T.cls x.kind = 2 → x.kind ≠ 14 → G 2 x) ∧ (x.kind = 14 → G 3 x)
theorem Kid.v {x : T} (h : Kid x) (k : T.isOf x 118 = true) : G 0 x := h.1 (by simpa [T.isOf] using k)
theorem Kid.n {x : T} (h : Kid x) (k : T.isOf x 110 = true) : G 1 x := h.2.1 (by simpa [T.isOf] using k)
theorem Kid.b {x : T} (h : Kid x) (k : T.isOf x 98 = true) : G 3 x := h.2.2.2 (by simpa [T.isOf] using k)
theorem Kid.s {x : T} (h : Kid x) (k : T.isOf x 115 = true) : G 2 x := by
  simp only [T.isOf] at k
  have k : (T.cls x.kind == 2 && x.kind != 14) = true := k
  simp only [Bool.and_eq_true, beq_iff_eq, bne_iff_ne] at k
  exact h.2.2.1 k.1 k.2
theorem Kid.o {x : T} (h : Kid x) (k : T.isOf x 111 = true) : G 1 x ∧ (x.kind = 1 ∨ x.kind = 2) := by
  have k : T.operand x = true := k
  simp only [T.operand, T.operandK, Bool.or_eq_true, Bool.and_eq_true, beq_iff_eq] at k
  have hk : x.kind = 1 ∨ x.kind = 2 := by rcases k with k | k; exact .inl k; exact .inr k.1.1
  exact ⟨h.2.1 (by rcases hk with e | e <;> rw [e] <;> rfl), hk⟩
theorem plainT {k n : Int} {s : ByteArray} {sh a : List Int} {l : List T} (h : T.fields (.mk k s n sh a l) = true) (h1 : k ≠ 1) (h2 : k ≠ 2) (h11 : k ≠ 11) (h20 : k ≠ 20) (h21 : k ≠ 21) (h23 : k ≠ 23) (h42 : k ≠ 42) : T.mk k s n sh a l = made k l := by
  simp only [T.fields, T.kind_mk, T.text_mk, T.n_mk, T.shape_mk, T.atoms_mk, h1, h2, h11, h20, h21, h23, h42, or_self, if_false, Bool.and_eq_true, beq_iff_eq, List.isEmpty_iff] at h
  obtain ⟨⟨h3, rfl⟩, rfl, rfl⟩ := h
  have hs : s = E := text_nil (by simp [h3])
  rw [hs]; rfl
set_option maxHeartbeats 2000000 in
theorem kid_all (t : T) : ∀ b, T.good t b = true → rng t = true → Kid t := by
  refine T.ind (P := fun t => ∀ b, T.good t b = true → rng t = true → Kid t) ?_ t
  intro k s n sh a l ih b hg hr
  simp only [T.good, T.node, Bool.and_eq_true] at hg
  obtain ⟨⟨⟨⟨hc, hf⟩, hk⟩, _⟩, hl⟩ := hg
  simp only [rng, Bool.and_eq_true, List.all_eq_true] at hr
  have hkid : ∀ x ∈ l, Kid x := fun x hx => ih x hx _ (goodL_mem hl x hx) (rngL_mem hr.2 x hx)
  have hk : T.kidsFor (T.pattern k) l = true := hk
  have hra := hr.1
  simp only [T.kind_mk, bne_iff_ne] at hc
  clear hl hr ih
  have hk' : k = 1 ∨ k = 2 ∨ k = 3 ∨ k = 4 ∨ k = 5 ∨ k = 10 ∨ k = 11 ∨ k = 12 ∨ k = 13 ∨ k = 14 ∨ k = 20 ∨ k = 21 ∨ k = 22 ∨ k = 23 ∨ (k = 24 ∨ k = 25 ∨ k = 26 ∨ k = 27) ∨ (28 ≤ k ∧ k ≤ 38) ∨ k = 39 ∨ (k = 40 ∨ k = 41) ∨ k = 42 ∨ k = 43 ∨ (k = 44 ∨ k = 46) ∨ k = 45 := by
    unfold T.cls at hc
    split at hc
    · omega
    · split at hc
      · omega
      · split at hc
        · omega
        · exact absurd rfl hc
  have v3 : ∀ (t : T), T.cls t.kind = 3 → G 0 t → Kid t := fun t h g => ⟨fun _ => g, fun e => by rw [h] at e; exact absurd e (by decide), fun e => by rw [h] at e; exact absurd e (by decide), fun e => by rw [e] at h; exact absurd h (by decide)⟩
  have v1 : ∀ (t : T), T.cls t.kind = 1 → G 1 t → Kid t := fun t h g => ⟨fun e => by rw [h] at e; exact absurd e (by decide), fun _ => g, fun e => by rw [h] at e; exact absurd e (by decide), fun e => by rw [e] at h; exact absurd h (by decide)⟩
  have v2 : ∀ (t : T), T.cls t.kind = 2 → t.kind ≠ 14 → G 2 t → Kid t := fun t h h14 g => ⟨fun e => by rw [h] at e; exact absurd e (by decide), fun e => by rw [h] at e; exact absurd e (by decide), fun _ _ => g, fun e => absurd e h14⟩
  rcases hk' with rfl | rfl | rfl | rfl | rfl | rfl | rfl | rfl | rfl | rfl | rfl | rfl | rfl | rfl | hk' | hk' | rfl | hk' | rfl | rfl | hk' | rfl
  · -- 1
    simp [T.fields, List.isEmpty_iff] at hf
    obtain ⟨⟨h1, rfl⟩, h2⟩ := hf
    have := all0 hk; subst this
    obtain rfl : s = E := text_nil (by simp [h1])
    exact v1 _ rfl (.num sh a h2 hra)
  · simp [T.fields, List.isEmpty_iff] at hf
    obtain ⟨⟨h1, rfl⟩, rfl, rfl⟩ := hf
    have := all0 hk; subst this
    exact v1 _ rfl (.nam s h1)
  · rw [plainT hf (by decide) (by decide) (by decide) (by decide) (by decide) (by decide) (by decide)]
    obtain ⟨u, v, rfl, h1, h2⟩ := all2 hk
    exact v1 _ rfl (.mon u v ((hkid u (by simp)).v h1) ((hkid v (by simp)).n h2))
  · rw [plainT hf (by decide) (by decide) (by decide) (by decide) (by decide) (by decide) (by decide)]
    obtain ⟨u, v, z, rfl, h1, h2, h3⟩ := all3 hk
    exact v1 _ rfl (.dy u v z ((hkid u (by simp)).v h1) ((hkid v (by simp)).n h2) ((hkid z (by simp)).n h3))
  · rw [plainT hf (by decide) (by decide) (by decide) (by decide) (by decide) (by decide) (by decide)]
    have hk : (decide (2 ≤ l.length) && decide (l.length ≤ 17) && l.all (T.isOf · 110)) = true := hk
    simp only [Bool.and_eq_true, decide_eq_true_eq, List.all_eq_true] at hk
    match l with
    | [] => simp at hk
    | [x] => simp at hk
    | x :: y :: l => exact v1 _ rfl (.pick x (y :: l) ((hkid x (by simp)).n (hk.2 x (by simp))) (fun z hz => (hkid z (List.mem_cons_of_mem _ hz)).n (hk.2 z (List.mem_cons_of_mem _ hz))) (by simp))
  · rw [plainT hf (by decide) (by decide) (by decide) (by decide) (by decide) (by decide) (by decide)]
    obtain ⟨u, rfl, h1⟩ := all1 hk
    exact v2 _ rfl (by simp [made]) (.say u ((hkid u (by simp)).n h1))
  · simp [T.fields, List.isEmpty_iff] at hf
    obtain ⟨⟨h1, rfl⟩, rfl, rfl⟩ := hf
    obtain ⟨u, rfl, h2⟩ := all1 hk
    exact v2 _ rfl (by simp) (.set s u h1 ((hkid u (by simp)).n h2))
  · rw [plainT hf (by decide) (by decide) (by decide) (by decide) (by decide) (by decide) (by decide)]
    obtain ⟨u, v, z, rfl, h1, h2, h3⟩ := all3 hk
    exact v2 _ rfl (by simp [made]) (.cond u v z ((hkid u (by simp)).n h1) ((hkid v (by simp)).b h2) ((hkid z (by simp)).b h3))
  · rw [plainT hf (by decide) (by decide) (by decide) (by decide) (by decide) (by decide) (by decide)]
    obtain ⟨u, v, rfl, h1, h2⟩ := all2 hk
    exact v2 _ rfl (by simp [made]) (.loop u v ((hkid u (by simp)).n h1) ((hkid v (by simp)).b h2))
  · rw [plainT hf (by decide) (by decide) (by decide) (by decide) (by decide) (by decide) (by decide)]
    have hk : l.all (T.isOf · 115) = true := hk
    simp only [List.all_eq_true] at hk
    have g : G 3 (made 14 l) := .body l (fun x hx => (hkid x hx).s (hk x hx))
    exact ⟨fun e => absurd e (by show ¬((2 : Int) = 3); decide), fun e => absurd e (by show ¬((2 : Int) = 1); decide), fun _ e => absurd rfl e, fun _ => g⟩
  · simp [T.fields, List.isEmpty_iff] at hf
    obtain ⟨⟨h1, rfl⟩, rfl, rfl⟩ := hf
    have := all0 hk; subst this
    exact v3 _ rfl (.prim s h1)
  · simp [T.fields, List.isEmpty_iff] at hf
    obtain ⟨⟨h1, rfl⟩, rfl, rfl⟩ := hf
    have := all0 hk; subst this
    exact v3 _ rfl (.name s h1)
  · rw [plainT hf (by decide) (by decide) (by decide) (by decide) (by decide) (by decide) (by decide)]
    obtain ⟨u, rfl, h1⟩ := all1 hk
    obtain ⟨g, go⟩ := (hkid u (by simp)).o h1
    exact v3 _ rfl (.const u g go)
  · simp [T.fields, List.isEmpty_iff] at hf
    obtain ⟨⟨h1, h2⟩, rfl, rfl⟩ := hf
    obtain ⟨u, rfl, h3⟩ := all1 hk
    obtain rfl : s = E := text_nil (by simp [h1])
    exact v3 _ rfl (.defn n u h2 ((hkid u (by simp)).b h3))
  · rw [plainT hf (by omega) (by omega) (by omega) (by omega) (by omega) (by omega) (by omega)]
    have hp : T.pattern k = [118] := by rcases hk' with rfl | rfl | rfl | rfl <;> rfl
    rw [hp] at hk
    obtain ⟨u, rfl, h1⟩ := all1 hk
    exact v3 _ (by rcases hk' with rfl | rfl | rfl | rfl <;> rfl) (.adv k u hk' ((hkid u (by simp)).v h1))
  · rw [plainT hf (by omega) (by omega) (by omega) (by omega) (by omega) (by omega) (by omega)]
    have hp : T.pattern k = [118, 118] := by rcases conj_cases hk' with rfl | rfl | rfl | rfl | rfl | rfl | rfl | rfl | rfl | rfl | rfl <;> rfl
    rw [hp] at hk
    obtain ⟨u, v, rfl, h1, h2⟩ := all2 hk
    exact v3 _ (by rcases conj_cases hk' with rfl | rfl | rfl | rfl | rfl | rfl | rfl | rfl | rfl | rfl | rfl <;> rfl) (.conj k u v hk' ((hkid u (by simp)).v h1) ((hkid v (by simp)).v h2))
  · rw [plainT hf (by decide) (by decide) (by decide) (by decide) (by decide) (by decide) (by decide)]
    obtain ⟨u, v, rfl, h1, h2⟩ := all2 hk
    obtain ⟨g, go⟩ := (hkid u (by simp)).o h1
    exact v3 _ rfl (.bondL u v g go ((hkid v (by simp)).v h2))
  · rw [plainT hf (by omega) (by omega) (by omega) (by omega) (by omega) (by omega) (by omega)]
    have hp : T.pattern k = [118, 111] := by rcases hk' with rfl | rfl <;> rfl
    rw [hp] at hk
    obtain ⟨u, v, rfl, h1, h2⟩ := all2 hk
    obtain ⟨g, go⟩ := (hkid v (by simp)).o h2
    exact v3 _ (by rcases hk' with rfl | rfl <;> rfl) (.bondR k u v hk' ((hkid u (by simp)).v h1) g go)
  · simp [T.fields, List.isEmpty_iff] at hf
    obtain ⟨⟨h1, rfl⟩, h2⟩ := hf
    obtain ⟨u, rfl, h3⟩ := all1 hk
    obtain rfl : s = E := text_nil (by simp [h1])
    have hs : sh = [(a.length : Int)] ∧ a ≠ [] := by
      unfold T.ranks at h2
      split at h2
      · simp only [Bool.and_eq_true, decide_eq_true_eq] at h2
        refine ⟨by rw [h2.1.2], ?_⟩
        rintro rfl
        have := h2.1.1.1
        have := h2.1.2
        simp at this; omega
      · cases h2
    rw [hs.1]
    exact v3 _ rfl (.rank a u hs.2 hra ((hkid u (by simp)).v h3))
  · rw [plainT hf (by decide) (by decide) (by decide) (by decide) (by decide) (by decide) (by decide)]
    have hk : (decide (2 ≤ l.length) && decide (l.length ≤ 17) && l.all (T.isOf · 118)) = true := hk
    simp only [Bool.and_eq_true, decide_eq_true_eq, List.all_eq_true] at hk
    match l with
    | [] => simp at hk
    | [x] => simp at hk
    | x :: y :: l => exact v3 _ rfl (.agenda x y l ((hkid x (by simp)).v (hk.2 x (by simp))) ((hkid y (by simp)).v (hk.2 y (by simp))) (fun z hz => (hkid z (by simp [hz])).v (hk.2 z (by simp [hz]))))
  · rw [plainT hf (by omega) (by omega) (by omega) (by omega) (by omega) (by omega) (by omega)]
    have hp : T.pattern k = [118, 118] := by rcases hk' with rfl | rfl <;> rfl
    rw [hp] at hk
    obtain ⟨u, v, rfl, h1, h2⟩ := all2 hk
    exact v3 _ (by rcases hk' with rfl | rfl <;> rfl) (.hook k u v hk' ((hkid u (by simp)).v h1) ((hkid v (by simp)).v h2))
  · rw [plainT hf (by decide) (by decide) (by decide) (by decide) (by decide) (by decide) (by decide)]
    obtain ⟨u, v, z, rfl, h1, h2, h3⟩ := all3 hk
    exact v3 _ rfl (.fork u v z ((hkid u (by simp)).v h1) ((hkid v (by simp)).v h2) ((hkid z (by simp)).v h3))
end Pp
end Go.Proofs.YtboondbognbnnaaGreatDoor

namespace Go.Proofs.YtboondbognbnnaaGreatDoor
namespace Pp
open Pz
/-- the first piece is a word; no '=:' -/
def Tidy (l : List Pc) : Prop := (∃ k s m, l = .w k s :: m) ∧ ∀ q ∈ wl l, q ≠ (7, [61, 58])
def Clean (l : List Pc) : Prop := ∀ q ∈ wl l, q ≠ (7, [61, 58])
theorem Clean.app {a b : List Pc} (h : Clean a) (k : Clean b) : Clean (a ++ b) := by
  intro q hq
  rw [wl_append] at hq
  rcases List.mem_append.1 hq with hq | hq
  · exact h q hq
  · exact k q hq
theorem Clean.nil : Clean [] := fun q hq => by cases hq
theorem Clean.b {l : List Pc} (h : Clean l) : Clean (.b :: l) := h
theorem Clean.w {k : Int} {s : List UInt8} {l : List Pc} (h1 : (k, s) ≠ (7, [61, 58])) (h : Clean l) : Clean (.w k s :: l) := by
  intro q hq
  rcases List.mem_cons.1 hq with rfl | hq
  · exact h1
  · exact h q hq
theorem Tidy.app {a b : List Pc} (h : Tidy a) (k : Clean b) : Tidy (a ++ b) := by
  obtain ⟨⟨c, s, m, rfl⟩, h2⟩ := h
  exact ⟨⟨c, s, m ++ b, rfl⟩, Clean.app (a := .w c s :: m) h2 k⟩
theorem Tidy.w {k : Int} {s : List UInt8} {l : List Pc} (h1 : (k, s) ≠ (7, [61, 58])) (h : Clean l) : Tidy (.w k s :: l) := ⟨⟨_, _, _, rfl⟩, h.w h1⟩
theorem Tidy.brk {l : List Pc} (h : Tidy l) (so : Bool) : Tidy (brk so l) := by
  cases so with
  | false => exact h
  | true => exact Tidy.w (by decide) (Clean.app h.2 (Clean.nil.w (by decide)))
theorem Tidy.clean {l : List Pc} (h : Tidy l) : Clean l := h.2
theorem clean_mark {k : Int} (h : IsMark k) : Clean (Pp.mark k) := by
  have hk : k = 24 ∨ k = 25 ∨ k = 26 ∨ k = 27 ∨ k = 28 ∨ k = 29 ∨ k = 30 ∨ k = 31 ∨ k = 32 ∨ k = 33 ∨ k = 34 ∨ k = 35 ∨ k = 36 ∨ k = 37 ∨ k = 38 ∨ k = 40 ∨ k = 41 := by
    unfold IsMark at h; omega
  have e5 : ∀ s, Clean [.w 5 s] := fun s => Clean.nil.w (by intro e; injection e with e _; exact absurd e (by decide))
  have e6 : ∀ s, Clean [.w 6 s] := fun s => Clean.nil.w (by intro e; injection e with e _; exact absurd e (by decide))
  have eb : ∀ s, Clean [.b, .w 6 s, .b] := fun s => e6 s
  rcases hk with rfl | rfl | rfl | rfl | rfl | rfl | rfl | rfl | rfl | rfl | rfl | rfl | rfl | rfl | rfl | rfl | rfl <;> first | exact e5 _ | exact e6 _ | exact eb _
theorem clean_of {c : Nat} {t : T} {f : T → List Pc} : Tidy (f t) → Clean (f t) := Tidy.clean
def TidyAt : Nat → T → Prop
  | 0, t => Tidy (phrase t)
  | 1, t => Tidy (noun t)
  | 2, t => Tidy (sentence t)
  | _, t => Clean (body t)
theorem ors_clean : ∀ (l : List T), (∀ y ∈ l, Tidy (noun y)) → Clean (ors l)
  | [], _ => Clean.nil
  | [t], h => by simpa [ors] using (h t (by simp)).clean
  | t :: u :: l, h => by
    simp only [ors]
    exact Clean.app (h t (by simp)).clean (Clean.b (Clean.w (by decide) (Clean.b (ors_clean (u :: l) (fun y hy => h y (by simp [hy]))))))
theorem ties_clean : ∀ (l : List T), (∀ y ∈ l, Tidy (phrase y)) → Clean (ties l)
  | [], _ => Clean.nil
  | [t], h => by simpa [ties] using (h t (by simp)).clean
  | t :: u :: l, h => by
    simp only [ties]
    exact Clean.app (h t (by simp)).clean (Clean.w (by decide) (ties_clean (u :: l) (fun y hy => h y (by simp [hy]))))
theorem sents_clean : ∀ (l : List T), (∀ y ∈ l, Tidy (sentence y)) → Clean (sents l)
  | [], _ => Clean.nil
  | [t], h => by simp only [sents]; exact Clean.app (h t (by simp)).clean (Clean.b Clean.nil)
  | t :: u :: l, h => by
    simp only [sents]
    exact Clean.app (h t (by simp)).clean (Clean.w (by decide) (Clean.b (sents_clean (u :: l) (fun y hy => h y (by simp [hy])))))
theorem tidy_all {c : Nat} {t : T} (h : G c t) : TidyAt c t := by
  have hw : ∀ {k : Int} {s : List UInt8}, k ≠ 7 → (k, s) ≠ (7, [61, 58]) := fun hk e => hk (by injection e)
  induction h with
  | num sh a h hr => show Tidy (noun _); rw [n_num]; exact Tidy.w (hw (by decide)) Clean.nil
  | nam s h => show Tidy (noun _); rw [n_nam]; exact Tidy.w (hw (by decide)) Clean.nil
  | mon v x hv hx iv ix => show Tidy (noun _); rw [n_mon]; exact (Tidy.brk iv _).app (Clean.b (Tidy.clean ix))
  | dy v x y hv hx hy iv ix iy => show Tidy (noun _); rw [n_dy, List.append_assoc]; exact (Tidy.brk ix _).app (Clean.app (Clean.b (Tidy.brk iv _).clean) (Clean.b (Tidy.clean iy)))
  | pick x l hx hl hne ix il => show Tidy (noun _); rw [n_pick]; exact ((Tidy.w (by decide) (Clean.b (Tidy.clean ix))).app (Clean.b (Clean.w (by decide) (Clean.b (ors_clean l il))))).app (Clean.b (Clean.w (by decide) Clean.nil))
  | say x hx ix => show Tidy (sentence _); rw [s_say]; exact ix
  | set s x h hx ix => show Tidy (sentence _); rw [s_set]; exact Tidy.w (hw (by decide)) (Clean.b (Clean.w (by decide) (Clean.b (Tidy.clean ix))))
  | cond x b d hx hb hd ix ib id => show Tidy (sentence _); rw [s_cond]; exact (((Tidy.w (by decide) (Clean.b (Tidy.clean ix))).app (Clean.b (Clean.w (by decide) (Clean.b ib)))).app (Clean.w (by decide) (Clean.b id))).app (Clean.w (by decide) Clean.nil)
  | loop x b hx hb ix ib => show Tidy (sentence _); rw [s_loop]; exact ((Tidy.w (by decide) (Clean.b (Tidy.clean ix))).app (Clean.b (Clean.w (by decide) (Clean.b ib)))).app (Clean.w (by decide) Clean.nil)
  | body l hl il => show Clean (body _); rw [b_body]; exact sents_clean l il
  | prim s h => show Tidy (phrase _); rw [p_prim]; exact Tidy.w (hw (by decide)) Clean.nil
  | name s h => show Tidy (phrase _); rw [p_name]; exact Tidy.w (hw (by decide)) Clean.nil
  | const x hx hk ix => show Tidy (phrase _); rw [p_const]; exact Tidy.app ix (Clean.w (hw (by decide)) (Clean.w (hw (by decide)) Clean.nil))
  | defn n b hn hb ib => show Tidy (phrase _); rw [p_defn]; exact (Tidy.w (by rcases hn with rfl | rfl <;> decide) (Clean.b ib)).app (Clean.w (by decide) Clean.nil)
  | adv k u hk hu iu => show Tidy (phrase _); rw [p_adv hk]; exact Tidy.app iu (clean_mark (by unfold IsMark; omega))
  | conj k u v hk hu hv iu iv => show Tidy (phrase _); rw [p_conj hk, List.append_assoc]; exact Tidy.app iu (Clean.app (clean_mark (by unfold IsMark; omega)) (Tidy.brk iv _).clean)
  | bondL x v hx hk hv ix iv => show Tidy (phrase _); rw [p_bondL]; exact Tidy.app ix (Clean.w (hw (by decide)) (Tidy.brk iv _).clean)
  | bondR k u x hk hu hx hkx iu ix => show Tidy (phrase _); rw [p_bondR hk, List.append_assoc]; exact Tidy.app iu (Clean.app (clean_mark (by unfold IsMark; omega)) (Tidy.clean ix))
  | rank a u hne ha hu iu => show Tidy (phrase _); rw [p_rank]; exact Tidy.app iu (Clean.w (hw (by decide)) (Clean.w (hw (by decide)) Clean.nil))
  | agenda u v l hu hv hl iu iv il =>
    show Tidy (phrase _)
    cases l with
    | nil => rw [p_agenda1]; exact Tidy.app iv (Clean.w (hw (by decide)) (Tidy.brk iu _).clean)
    | cons z l =>
      rw [p_agenda]
      refine ((Tidy.w (by decide) (ties_clean _ (fun y hy => ?_))).app (Clean.w (by decide) Clean.nil)).app (Clean.w (hw (by decide)) (Tidy.brk iu _).clean)
      rcases List.mem_cons.1 hy with rfl | hy
      · exact iv
      · exact il y hy
  | hook k u v hk hu hv iu iv =>
    show Tidy (phrase _)
    rcases hk with rfl | rfl
    · rw [p_hook]; exact (Tidy.w (by decide) (Clean.app (Tidy.clean iu) (Clean.b (Tidy.brk iv _).clean))).app (Clean.w (by decide) Clean.nil)
    · rw [p_cap]; exact (Tidy.w (by decide) (Clean.w (by decide) (Clean.b (Clean.app (Tidy.clean iu) (Clean.b (Tidy.brk iv _).clean))))).app (Clean.w (by decide) Clean.nil)
  | fork u v z hu hv hz iu iv iz => show Tidy (phrase _); rw [p_fork]; exact (Tidy.w (by decide) (Clean.app (Clean.app (Tidy.clean iu) (Clean.b (Tidy.brk iv _).clean)) (Clean.b (Tidy.brk iz _).clean))).app (Clean.w (by decide) Clean.nil)
/-! whole phrases -/
section
variable {ws : List W} {e n : Nat}
theorem phrase_verb {t : T} {l : List Pc} {d : Nat} (h : UnitOf t l d) (hf : First l) (hc : T.cls t.kind = 3) {o f : Nat} (hk : keys ws n = wl l) (ho : o + d ≤ 512) (hn : need ws n 5 ≤ f) : Pz.phrase ws e f n o = .ok (t, n + wn l) := by
  have hk0 : keys ws n = wl l ++ [] := by simpa using hk
  obtain ⟨q, p, h1, h2, h3⟩ := hf.keys hk0
  obtain ⟨g, rfl⟩ : ∃ g, f = g + 3 := ⟨f - 3, by unfold need at hn; omega⟩
  have hp := hf.pos
  have iu := h.whole (e := e) (o := o) (f := g + 1) hk0 End.nil.rest ho (by unfold need at *; omega)
  have hk2 := keys_skip _ _ hk0
  rw [Pz.phrase.eq_def]
  simp only [(h2.begins h1).1, Bool.true_eq_false, if_false]
  rw [fromU_go (h2.begins h1).1 iu]
  exact fromU_verbs (u := un t (place ws e n)) End.nil hk2 rfl (by intro v hv; rw [List.mem_singleton.1 hv]; exact (un_verb hc).2) rfl (by rw [trainL.eq_def]; rfl)
theorem phrase_noun {x : T} {l : List Pc} {d : Nat} (h : FromOf x l d) (hf : First l) {o f : Nat} (hk : keys ws n = wl l) (ho : o + d ≤ 512) (hn : need ws n 5 ≤ f) : Pz.phrase ws e f n o = .ok (x, n + wn l) := by
  have hk0 : keys ws n = wl l ++ [] := by simpa using hk
  obtain ⟨q, p, h1, h2, h3⟩ := hf.keys hk0
  obtain ⟨g, rfl⟩ : ∃ g, f = g + 2 := ⟨f - 2, by unfold need at hn; omega⟩
  obtain ⟨u, n1, us, f', i1, i2, i3, i4, i5⟩ := h ws e n o g [] hk0 End.nil ho (by unfold need at *; omega)
  have hk2 := keys_skip _ _ hk0
  obtain ⟨f2, rfl⟩ : ∃ f2, f' = f2 + 1 := ⟨f' - 1, by unfold need at i4; omega⟩
  rw [Pz.phrase.eq_def]
  simp only [(h2.begins h1).1, Bool.true_eq_false, if_false]
  rw [fromU_go (h2.begins h1).1 i1]
  have := i5 []
  rw [this, List.nil_append]
  exact fromU_noun End.nil hk2 i3
theorem all_of {t : T} {l : List Pc} (hk : keys ws n = wl l) (hn : n ≤ ws.length) (h : Pz.phrase ws e (13 * ws.length + 20) n 0 = .ok (t, n + wn l)) (c p : Int) :
    all ws e n c p = if T.cls t.kind ≠ c then .bad 5 p else if T.may t c ≠ 0 then .bad (T.may t c) e else .ok t := by
  have hl := keys_len _ hk
  unfold all
  rw [h]
  simp only [R.andThen]
  rw [if_neg (by simp only [wn]; omega)]
end
theorem may_parts {t : T} {c : Int} (h : T.may t c = 0) : t.fits ∧ T.good t false = true ∧ T.cls t.kind = c := by
  unfold T.may at h
  split at h
  · cases h
  · split at h
    · cases h
    · rename_i h2
      split at h
      · cases h
      · rename_i h3
        split at h
        · cases h
        · rename_i h4
          exact ⟨Decidable.not_not.1 h2, by simpa using h3, Decidable.not_not.1 h4⟩
/-- a text between brackets, k times over -/
def brN : Nat → List Pc → List Pc
  | 0, l => l
  | k + 1, l => .w 7 [40] :: brN k l ++ [.w 7 [41]]
/-- the pieces of a verb or a noun -/
def text (t : T) : List Pc := if T.cls t.kind = 3 then phrase t else noun t
/-- what a phrase is read as -/
def Reads (t : T) (l : List Pc) : Prop := First l ∧ Tidy l ∧ (∀ r, Stop r → Ok false l r) ∧ ∀ (ws : List W) (e n : Nat), keys ws n = wl l → Pz.phrase ws e (13 * ws.length + 20) n 0 = .ok (t, n + wn l)
theorem reads_brackets {t : T} {c : Int} (h : T.may t c = 0) (hc : c = 1 ∨ c = 3) (hr : rng t = true) (k : Nat) (hk : k + 2 * t.height ≤ 512) : Reads t (brN k (text t)) := by
  obtain ⟨hf, hg, hcl⟩ := may_parts h
  have kid := kid_all t false hg hr
  have hok : ∀ {l : List Pc}, (∀ r, Stop r → Ok false l r) → (∀ q, Went (rn l ++ q)) → ∀ k, (∀ r, Stop r → Ok false (brN k l) r) ∧ ∀ q, Went (rn (brN k l) ++ q) := by
    intro l h1 h2 k
    induction k with
    | zero => exact ⟨h1, h2⟩
    | succ k ih => exact ⟨fun r hr => train_ok ih.1 ih.2 hr, fun q => Went.cons _ (by decide)⟩
  have hti : ∀ {l : List Pc}, Tidy l → ∀ k, Tidy (brN k l) := by
    intro l h1 k
    induction k with
    | zero => exact h1
    | succ k ih => exact (Tidy.w (by decide) ih.clean).app (Clean.w (by decide) Clean.nil)
  have hfi : ∀ {l : List Pc}, First l → ∀ k, First (brN k l) := by
    intro l h1 k
    cases k with
    | zero => exact h1
    | succ k => exact ⟨(7, [40]), _, rfl, .inr ⟨rfl, by decide⟩⟩
  have hneed : ∀ (ws : List W) (n : Nat), need ws n 5 ≤ 13 * ws.length + 20 := fun ws n => by unfold need; omega
  rcases hc with rfl | rfl
  · have g := kid.2.1 hcl
    have b : PN t := back_all g
    have f : FitN t := fits_all g
    have ti : Tidy (noun t) := tidy_all g
    have e : text t = noun t := by unfold text; rw [if_neg (by rw [hcl]; decide)]
    rw [e]
    obtain ⟨o1, o2⟩ := hok (fun r hr => f.ok false r hr (fun e => by cases e)) f.went k
    have hb : ∀ k, FromOf t (brN k (noun t)) (2 * t.height + k) := by
      intro k
      induction k with
      | zero => exact b.from_
      | succ k ih => exact from_one (bracket_noun ih (hfi b.first k)) (hfi b.first (k + 1)) b.cls
    exact ⟨hfi b.first k, hti ti k, o1, fun ws e n hk' => phrase_noun (hb k) (hfi b.first k) hk' (by omega) (hneed ws n)⟩
  · have g := kid.1 hcl
    have b : PV t := back_all g
    have f : FitV t := fits_all g
    have ti : Tidy (phrase t) := tidy_all g
    have e : text t = phrase t := by unfold text; rw [if_pos hcl]
    rw [e]
    obtain ⟨o1, o2⟩ := hok (fun r hr => f.ok false r hr (fun e => by cases e)) f.went k
    have hb : ∀ k, UnitOf t (brN k (phrase t)) (2 * t.height + k) := by
      intro k
      induction k with
      | zero => exact b.unit
      | succ k ih => exact (bracket_verb ih (hfi b.first k) b.cls).unit (hfi b.first (k + 1))
    exact ⟨hfi b.first k, hti ti k, o1, fun ws e n hk' => phrase_verb (hb k) (hfi b.first k) b.cls hk' (by omega) (hneed ws n)⟩
theorem Reads.read {t : T} {l : List Pc} (h : Reads t l) (hl : (rn l).length ≤ 1048576) (c : Int) : Pz.read (rn l) c = if T.cls t.kind ≠ c then .bad 5 0 else if T.may t c ≠ 0 then .bad (T.may t c) (rn l).length else .ok t := by
  obtain ⟨h1, h2, h3, h4⟩ := h
  unfold Pz.read
  rw [cut_rn (h3 [] Stop.nil) hl]
  show all (wordsAt 0 l) _ 0 c 0 = _
  have hk : keys (wordsAt 0 l) 0 = wl l := by simp [keys, keys_words]
  exact all_of hk (Nat.zero_le _) (h4 _ _ 0 hk) c 0
/-! lines -/
theorem wordsAt_append : ∀ (a b : List Pc) (p : Nat), wordsAt p (a ++ b) = wordsAt p a ++ wordsAt (p + (rn a).length) b
  | [], b, p => by simp [wordsAt, rn]
  | .b :: a, b, p => by simp [wordsAt, rn, Pc.bytes, wordsAt_append a b]; congr 1; omega
  | .w k s :: a, b, p => by simp [wordsAt, rn, Pc.bytes, wordsAt_append a b]; congr 1; omega
theorem Tidy.words {l : List Pc} (h : Tidy l) (p : Nat) : ∃ k s m, wordsAt p l = ⟨k, s, p⟩ :: m ∧ wl l = (k, s) :: m.map key := by
  obtain ⟨⟨k, s, m, rfl⟩, _⟩ := h
  exact ⟨k, s, _, rfl, by simp [wl, keys_words]⟩
theorem named_cut {t : T} {l : List Pc} (h : Reads t l) {w : List UInt8} {k : Int} (hw : (k = 3 ∧ w = [86, 101, 114, 98]) ∨ (k = 2 ∧ w = [110, 111, 117, 110])) (hl : (rn l).length ≤ 4000) :
    ¬ 4096 < (w ++ [32, 61, 58, 32] ++ rn l).length ∧ (span (· == 32) (w ++ [32, 61, 58, 32] ++ rn l) = 0 ∧ (w ++ [32, 61, 58, 32] ++ rn l)[0]? ≠ some 41) ∧ cut (w ++ [32, 61, 58, 32] ++ rn l) = .ok (⟨k, w, 0⟩ :: ⟨7, [61, 58], 5⟩ :: wordsAt 8 l) := by
  have hlen : w.length = 4 := by rcases hw with ⟨_, rfl⟩ | ⟨_, rfl⟩ <;> rfl
  have e : w ++ [32, 61, 58, 32] ++ rn l = rn ([.w k w, .b, .w 7 [61, 58], .b] ++ l) := by simp [rn, Pc.bytes]
  have hok : Ok false ([.w k w, .b, .w 7 [61, 58], .b] ++ l) [] := by
    refine ⟨?_, fun e => (by cases e), ?_⟩
    · rcases hw with ⟨rfl, rfl⟩ | ⟨rfl, rfl⟩
      · exact .inr (.inr (.inl ⟨rfl, stop_b _, by decide⟩))
      · exact .inr (.inl ⟨rfl, stop_b _, by decide⟩)
    · exact ok_sign (by decide) (by decide) (went_b _) (h.2.2.1 [] Stop.nil)
  have hcut := cut_rn hok (by rw [← e]; simp only [List.length_append, hlen, List.length_cons, List.length_nil]; omega)
  have hwords : wordsAt 0 ([.w k w, .b, .w 7 [61, 58], .b] ++ l) = ⟨k, w, 0⟩ :: ⟨7, [61, 58], 5⟩ :: wordsAt 8 l := by simp [wordsAt, hlen]
  refine ⟨by simp only [List.length_append, hlen, List.length_cons, List.length_nil]; omega, by rcases hw with ⟨_, rfl⟩ | ⟨_, rfl⟩ <;> simp [span], ?_⟩
  rw [e, hcut, hwords]
theorem line_named {t : T} {l : List Pc} (h : Reads t l) {w : List UInt8} {k : Int} (hw : (k = 3 ∧ w = [86, 101, 114, 98]) ∨ (k = 2 ∧ w = [110, 111, 117, 110])) (hl : (rn l).length ≤ 4000) :
    Pz.line (w ++ [32, 61, 58, 32] ++ rn l) = if T.cls t.kind ≠ (if k = 3 then 3 else 1) then .bad 5 8 else if T.may t (if k = 3 then 3 else 1) ≠ 0 then .bad (T.may t (if k = 3 then 3 else 1)) (w ++ [32, 61, 58, 32] ++ rn l).length else .ok (.named k w t) := by
  obtain ⟨hb, hsp, hcut⟩ := named_cut h hw hl
  obtain ⟨h1, h2, h3, h4⟩ := h
  have hk : keys (⟨k, w, 0⟩ :: ⟨7, [61, 58], 5⟩ :: wordsAt 8 l) 2 = wl l := by simp [keys, keys_words]
  have hpl : ∀ e, place (⟨k, w, 0⟩ :: ⟨7, [61, 58], 5⟩ :: wordsAt 8 l) e 2 = 8 := by
    intro e
    obtain ⟨k', s', m, h5, _⟩ := h2.words 8
    rw [h5]; rfl
  unfold Pz.line
  rw [if_neg hb]
  dsimp only
  rw [hsp.1, if_neg hsp.2, hcut]
  simp only [R.andThen, and_self, if_true]
  rw [if_neg (by rcases hw with ⟨rfl, _⟩ | ⟨rfl, _⟩ <;> decide), hpl, all_of hk (by simp) (h4 _ _ 2 hk)]
  by_cases h6 : T.cls t.kind ≠ (if k = 3 then 3 else 1)
  · simp only [if_pos h6]
  · simp only [if_neg h6]
    by_cases h7 : T.may t (if k = 3 then 3 else 1) ≠ 0
    · simp only [if_pos h7]
    · simp only [if_neg h7]
end Pp
end Go.Proofs.YtboondbognbnnaaGreatDoor

namespace Go.Proofs.YtboondbognbnnaaGreatDoor
namespace Pp
open Pz
theorem prim_head {s : List UInt8} (h : T.isPrim s = true) : ∃ c q, s = c :: q ∧ c ≠ 32 ∧ c ≠ 41 := by
  simp only [T.isPrim, T.spells, List.contains_eq_mem, List.mem_cons, List.not_mem_nil, or_false, decide_eq_true_eq] at h
  rcases h with rfl | rfl | rfl | rfl | rfl | rfl | rfl | rfl | rfl | rfl | rfl | rfl | rfl | rfl | rfl | rfl | rfl | rfl | rfl | rfl | rfl | rfl | rfl | rfl | rfl | rfl | rfl | rfl | rfl | rfl | rfl | rfl | rfl | rfl | rfl | rfl | rfl | rfl | rfl | rfl | rfl | rfl | rfl <;> exact ⟨_, _, rfl, by decide, by decide⟩
theorem named_head {s : List UInt8} {lo hi : Int} (h : T.named s lo hi = true) (h0 : lo = 97 ∨ lo = 65) : ∃ c q, s = c :: q ∧ c ≠ 32 ∧ c ≠ 41 := by
  obtain ⟨c, q, rfl, _, h1, _⟩ := named_parts h
  refine ⟨c, q, rfl, ?_, ?_⟩ <;> rintro rfl
  · have : ((32 : UInt8).toNat : Int) = 32 := rfl
    omega
  · have : ((41 : UInt8).toNat : Int) = 41 := rfl
    omega
theorem nums_head (rank : Bool) {l : List Int} (hne : l ≠ []) (hl : ∀ n ∈ l, inRange n = true) : ∃ c q, nums rank l = c :: q ∧ c ≠ 32 ∧ c ≠ 41 := by
  cases l with
  | nil => exact absurd rfl hne
  | cons n l =>
    obtain ⟨e1, e2, e3, e4, e5, e6, e7⟩ := numText (r := []) (numT_one rank (hl n (by simp))) rfl
    simp only [nums]
    cases hp : one rank n with
    | nil => exact absurd hp e5
    | cons b t =>
      rw [hp] at e7
      simp only [headIs, Bool.or_eq_true, beq_iff_eq] at e7
      refine ⟨b, _, rfl, ?_, ?_⟩ <;> rintro rfl <;> revert e7 <;> decide
theorem fit_head {k : Int} {s r : List UInt8} (h : fit (.w k s) r) (hf : FK (k, s)) : ∃ c q, s = c :: q ∧ c ≠ 32 ∧ c ≠ 41 := by
  rcases h with ⟨_, _, rank, l, hne, hl, rfl⟩ | ⟨_, _, h⟩ | ⟨_, _, h⟩ | ⟨_, _, h⟩ | ⟨h, _⟩ | ⟨rfl, rfl, _⟩
  · exact nums_head rank hne hl
  · exact named_head h (.inl rfl)
  · exact named_head h (.inr rfl)
  · exact prim_head h
  · have hk : ¬(1 ≤ k ∧ k ≤ 4) := by
      simp only [signs, List.mem_cons, Prod.mk.injEq, List.not_mem_nil, or_false] at h
      omega
    rcases hf with hf | ⟨_, hf⟩
    · exact absurd hf hk
    · simp only [List.mem_cons, List.not_mem_nil, or_false] at hf
      rcases hf with rfl | rfl | rfl | rfl <;> exact ⟨_, _, rfl, by decide, by decide⟩
  · rcases hf with hf | ⟨_, hf⟩
    · exact absurd hf.2 (by decide)
    · exact absurd hf (by decide)
theorem Reads.head {t : T} {l : List Pc} (h : Reads t l) : ∃ c q, rn l = c :: q ∧ c ≠ 32 ∧ c ≠ 41 := by
  obtain ⟨⟨q0, r0, h1, h2⟩, ⟨⟨k, s, m, rfl⟩, _⟩, h3, _⟩ := h
  have e : (k, s) :: wl m = q0 :: r0 := h1
  injection e with e1 e2
  subst e1
  obtain ⟨c, q, rfl, hc⟩ := fit_head (h3 [] Stop.nil).1 h2
  exact ⟨c, q ++ rn m, rfl, hc⟩
/-- what may stand behind a sentence -/
def Post (p : List UInt8) : Prop := p = [] ∨ p = [32, 78, 66, 46, 32, 61, 32, 41]
theorem Post.stop {p : List UInt8} (h : Post p) : Stop p := by
  rcases h with rfl | rfl
  · exact Stop.nil
  · exact stop_b _
theorem cut_post {l : List Pc} {p : List UInt8} (hp : Post p) (h : ∀ r, Stop r → Ok false l r) (hl : (rn l).length ≤ 4000) : cut ([32, 32] ++ rn l ++ p) = .ok (wordsAt 2 l) := by
  have hs0 : ([32, 32] ++ rn l ++ p).drop 0 = 32 :: (32 :: (rn l ++ p)) := by simp
  have hs1 : ([32, 32] ++ rn l ++ p).drop 1 = 32 :: (rn l ++ p) := by simp
  have hs2 : ([32, 32] ++ rn l ++ p).drop 2 = rn l ++ p := by simp
  have h1 := (cuts_blank hs0 []).trans (cuts_blank hs1 [])
  have h2 := h1.trans (cuts_list l (ws := []) hs2 (h p hp.stop))
  have hpl : p.length ≤ 8 := by rcases hp with rfl | rfl <;> decide
  simp only [List.nil_append] at h2
  rcases hp with rfl | rfl
  · refine Cuts.ends ?_ (by simp; omega)
    have e : ([32, 32] ++ rn l ++ ([] : List UInt8)).length = 2 + (rn l).length := by simp; omega
    rw [e]; exact h2
  · have hs3 := drop_more hs2
    have h3 := h2.trans (cuts_blank hs3 _)
    have hs4 : ([32, 32] ++ rn l ++ [32, 78, 66, 46, 32, 61, 32, 41]).drop (2 + (rn l).length + 1) = [78, 66, 46, 32, 61, 32, 41] := by
      rw [← List.drop_drop, hs3]; rfl
    unfold cut
    rw [if_neg (by simp; omega)]
    obtain ⟨f, hf, e⟩ := h3 (([32, 32] ++ rn l ++ [32, 78, 66, 46, 32, 61, 32, 41]).length + 1) (by omega)
    obtain ⟨g, rfl⟩ : ∃ g, f = g + 1 := ⟨f - 1, by omega⟩
    refine e.trans ?_
    rw [cutF, hs4]
    rfl
theorem said_cut {t : T} {l : List Pc} (h : Reads t l) {p : List UInt8} (hp : Post p) (hl : (rn l).length ≤ 4000) :
    ¬ 4096 < ([32, 32] ++ rn l ++ p).length ∧ (span (· == 32) ([32, 32] ++ rn l ++ p) = 2 ∧ ([32, 32] ++ rn l ++ p)[2]? ≠ some 41) ∧ ∃ x m, cut ([32, 32] ++ rn l ++ p) = .ok (x :: m) ∧ wordsAt 2 l = x :: m ∧ (∀ v r, m = v :: r → ¬(v.kind = 7 ∧ v.text = [61, 58])) := by
  obtain ⟨c, q, hc, hc1, hc2⟩ := h.head
  have hcut := cut_post hp h.2.2.1 hl
  have hpl : p.length ≤ 8 := by rcases hp with rfl | rfl <;> decide
  obtain ⟨k, s, m, h5, h6⟩ := h.2.1.words 2
  refine ⟨by simp; omega, by rw [hc]; simp [span, hc1, hc2], _, m, h5 ▸ hcut, h5, ?_⟩
  rintro v r rfl ⟨e1, e2⟩
  refine h.2.1.2 (key v) (by rw [h6]; simp) ?_
  unfold key; rw [e1, e2]
theorem line_said {t : T} {l : List Pc} (h : Reads t l) {p : List UInt8} (hp : Post p) (hl : (rn l).length ≤ 4000) :
    Pz.line ([32, 32] ++ rn l ++ p) = if T.cls t.kind ≠ 1 then .bad 5 2 else if T.may t 1 ≠ 0 then .bad (T.may t 1) ([32, 32] ++ rn l ++ p).length else .ok (.noun t) := by
  obtain ⟨hb, hsp, x, m, hcut, h5, hno⟩ := said_cut h hp hl
  have hk : keys (x :: m) 0 = wl l := by rw [← h5]; simp [keys, keys_words]
  have hall := all_of (e := ([32, 32] ++ rn l ++ p).length) hk (Nat.zero_le _) (h.2.2.2 _ _ 0 hk) 1 2
  have hpl2 : place (x :: m) ([32, 32] ++ rn l ++ p).length 0 = 2 := by
    obtain ⟨k, s, m', h6, _⟩ := h.2.1.words 2
    rw [← h5, h6]; rfl
  have hend : (all (x :: m) ([32, 32] ++ rn l ++ p).length 0 1 (place (x :: m) ([32, 32] ++ rn l ++ p).length 0)).andThen (fun t => .ok (.noun t)) =
      if T.cls t.kind ≠ 1 then .bad 5 2 else if T.may t 1 ≠ 0 then .bad (T.may t 1) ([32, 32] ++ rn l ++ p).length else (.ok (.noun t) : R L) := by
    rw [hpl2, hall]
    by_cases h7 : T.cls t.kind ≠ 1
    · simp only [if_pos h7, R.andThen]
    · simp only [if_neg h7]
      by_cases h8 : T.may t 1 ≠ 0
      · simp only [if_pos h8, R.andThen]
      · simp only [if_neg h8, R.andThen]
  rw [← hend]
  unfold Pz.line
  rw [if_neg hb]
  dsimp only
  rw [hsp.1, if_neg hsp.2, hcut]
  simp only [R.andThen]
  cases m with
  | nil => rfl
  | cons v r =>
    dsimp only
    rw [if_neg (hno v r rfl)]
end Pp
end Go.Proofs.YtboondbognbnnaaGreatDoor
