/- Terms in memory of their own: which blocks they hold. -/
import Derived.Test.YtnnhbpgpkpbinaaGreatMem
import Derived.OwnWalk
import Derived.Maps.AppendAt
namespace Go.Proofs.YtnnhbpgpkpbinaaGreat
open Go.RowKit

/-- a slice of elements of so many cells: of no capacity, or at the head of a block of its own. -/
def OwnB (w : World) (ty size : Nat) (A : Option Addr) (len cap : Nat) (F : List Nat) : Prop :=
  (len = 0 ∧ cap = 0 ∧ F = []) ∨ ∃ b cur, A = some ⟨b, 0, none⟩ ∧ F = [b] ∧ w.heap[b]? = some (.cells cur ty (0, 0)) ∧ len ≤ cap ∧ cap ≤ maxLen ∧ cap * size ≤ cur.size
/-- a list of numbers in a block of its own -/
def OwnI (w : World) (ty : Nat) (A : Option Addr) (len cap : Nat) (xs : List Int) (F : List Nat) : Prop :=
  xs.length = len ∧ OwnB w ty 1 A len cap F ∧ ∀ b, A = some ⟨b, 0, none⟩ → ∀ (i : Nat) (v : Int), xs[i]? = some v → w.cell? ⟨b, i, none⟩ = some (.int .i64 v)

mutual
/-- Six cells read as a term that holds the blocks of a list. -/
def Own (w : World) : T → TV → List Nat → Prop
  | .mk k s n sh a l, x, F => Wee x ∧ x.kind = k ∧ x.text = s ∧ x.n = n ∧ x.kl = l.length ∧
    ∃ F1 F2 F3 F4, F = F1 ++ F2 ++ F3 ++ F4 ∧ OwnI w 3 x.sa x.sl x.sc sh F1 ∧ OwnI w 2 x.aa x.al x.ac a F2 ∧ OwnB w 29 6 x.ka x.kl x.kc F3 ∧ OwnL w l x.ka 0 F4
def OwnL (w : World) : List T → Option Addr → Nat → List Nat → Prop
  | [], _, _, F => F = []
  | t :: l, A, i, F => ∃ F1 F2, F = F1 ++ F2 ∧ (∃ b x, A = some ⟨b, 0, none⟩ ∧ At w b (i * 6) x ∧ Own w t x F1) ∧ OwnL w l A (i + 1) F2
end

theorem OwnB.kept {w w' : World} {ty size : Nat} {A : Option Addr} {len cap : Nat} {F : List Nat} (h : OwnB w ty size A len cap F) (hk : ∀ b ∈ F, w'.heap[b]? = w.heap[b]?) : OwnB w' ty size A len cap F := by
  rcases h with h | ⟨b, cur, h1, h2, h3, h4⟩
  · exact .inl h
  · exact .inr ⟨b, cur, h1, h2, (hk b (by simp [h2])).trans h3, h4⟩
theorem OwnB.block {w : World} {ty size : Nat} {A : Option Addr} {len cap : Nat} {F : List Nat} (h : OwnB w ty size A len cap F) (hl : 0 < len) : ∃ b, A = some ⟨b, 0, none⟩ ∧ F = [b] := by
  rcases h with h | ⟨b, cur, h1, h2, _⟩
  · omega
  · exact ⟨b, h1, h2⟩
theorem cell_of_heap {w w' : World} {b o : Nat} (h : w'.heap[b]? = w.heap[b]?) : w'.cell? ⟨b, o, none⟩ = w.cell? ⟨b, o, none⟩ := World.cell?_of_block (a := ⟨b, o, none⟩) h
theorem OwnI.kept {w w' : World} {ty : Nat} {A : Option Addr} {len cap : Nat} {xs : List Int} {F : List Nat} (h : OwnI w ty A len cap xs F) (hk : ∀ b ∈ F, w'.heap[b]? = w.heap[b]?) : OwnI w' ty A len cap xs F := by
  obtain ⟨h1, h2, h3⟩ := h
  refine ⟨h1, h2.kept hk, fun b hb i v hv => ?_⟩
  have hlt := (List.getElem?_eq_some_iff.1 hv).1
  obtain ⟨b', e, hF⟩ := h2.block (by omega)
  rw [hb] at e
  cases e
  rw [cell_of_heap (hk b (by simp [hF]))]
  exact h3 b hb i v hv
theorem At.kept {w w' : World} {b o : Nat} {x : TV} (h : At w b o x) (hk : w'.heap[b]? = w.heap[b]?) : At w' b o x :=
  ⟨(cell_of_heap hk).trans h.c0, (cell_of_heap hk).trans h.c1, (cell_of_heap hk).trans h.c2, (cell_of_heap hk).trans h.c3, (cell_of_heap hk).trans h.c4, (cell_of_heap hk).trans h.c5⟩

theorem Own_kids {w w' : World} (l : List T) (ih : ∀ t ∈ l, ∀ x F, Own w t x F → (∀ b ∈ F, w'.heap[b]? = w.heap[b]?) → Own w' t x F) (A : Option Addr) (hA : ∀ b, A = some ⟨b, 0, none⟩ → l ≠ [] → w'.heap[b]? = w.heap[b]?) :
    ∀ (i : Nat) (F : List Nat), OwnL w l A i F → (∀ b ∈ F, w'.heap[b]? = w.heap[b]?) → OwnL w' l A i F := by
  induction l with
  | nil => exact fun _ _ h _ => h
  | cons t l ihl =>
    intro i F h hk
    obtain ⟨F1, F2, rfl, ⟨b, x, hb, hat, ho⟩, hr⟩ := h
    refine ⟨F1, F2, rfl, ⟨b, x, hb, hat.kept (hA b hb (by simp)), ih t (by simp) x F1 ho (fun c hc => hk c (by simp [hc]))⟩, ?_⟩
    exact ihl (fun u hu => ih u (by simp [hu])) (fun c hc _ => hA c hc (by simp)) (i + 1) F2 hr (fun c hc => hk c (by simp [hc]))

/-- what a term holds unchanged, the term is -/
theorem Own.kept {w w' : World} (t : T) : ∀ (x : TV) (F : List Nat), Own w t x F → (∀ b ∈ F, w'.heap[b]? = w.heap[b]?) → Own w' t x F := by
  refine T.ind (P := fun t => ∀ (x : TV) (F : List Nat), Own w t x F → (∀ b ∈ F, w'.heap[b]? = w.heap[b]?) → Own w' t x F) ?_ t
  intro k s n sh a l ih x F h hk
  simp only [Own] at h ⊢
  obtain ⟨h1, h2, h3, h4, h5, F1, F2, F3, F4, rfl, h6, h7, h8, h9⟩ := h
  refine ⟨h1, h2, h3, h4, h5, F1, F2, F3, F4, rfl, h6.kept (fun b hb => hk b (by simp [hb])), h7.kept (fun b hb => hk b (by simp [hb])), h8.kept (fun b hb => hk b (by simp [hb])), ?_⟩
  refine Own_kids l ih x.ka (fun b hb hl => ?_) 0 F4 h9 (fun b hb => hk b (by simp [hb]))
  have hpos : 0 < x.kl := by rw [h5]; exact List.length_pos_iff.2 hl
  obtain ⟨b', e, hF⟩ := h8.block hpos
  rw [hb] at e
  cases e
  exact hk b (by simp [hF])

theorem OwnI.ints {w : World} {ty : Nat} {A : Option Addr} {len cap : Nat} {xs : List Int} {F : List Nat} {B : Nat} (h : OwnI w ty A len cap xs F) (hF : ∀ b ∈ F, b < B) : Ints w B A len xs := by
  obtain ⟨h1, h2, h3⟩ := h
  refine ⟨h1, fun hl => ?_⟩
  obtain ⟨b, e, hb⟩ := h2.block hl
  exact ⟨b, 0, e, hF b (by simp [hb]), fun i v hv => by rw [Nat.zero_add]; exact h3 b e i v hv⟩
theorem OwnL_rep {w : World} {B : Nat} (l : List T) (ih : ∀ t ∈ l, ∀ x F, Own w t x F → (∀ b ∈ F, b < B) → Rep w B t x) (A : Option Addr) (hA : ∀ b, A = some ⟨b, 0, none⟩ → l ≠ [] → b < B) :
    ∀ (i : Nat) (F : List Nat), OwnL w l A i F → (∀ b ∈ F, b < B) → RepL w B l A i := by
  induction l with
  | nil => exact fun _ _ _ _ => trivial
  | cons t l ihl =>
    intro i F h hk
    obtain ⟨F1, F2, rfl, ⟨b, x, hb, hat, ho⟩, hr⟩ := h
    refine ⟨⟨b, 0, x, hb, hA b hb (by simp), by rw [Nat.zero_add]; exact hat, ih t (by simp) x F1 ho (fun c hc => hk c (by simp [hc]))⟩, ?_⟩
    exact ihl (fun u hu => ih u (by simp [hu])) (fun c hc _ => hA c hc (by simp)) (i + 1) F2 hr (fun c hc => hk c (by simp [hc]))
/-- a term of its own reads as the term -/
theorem Own.rep {w : World} {B : Nat} (t : T) : ∀ (x : TV) (F : List Nat), Own w t x F → (∀ b ∈ F, b < B) → Rep w B t x := by
  refine T.ind (P := fun t => ∀ (x : TV) (F : List Nat), Own w t x F → (∀ b ∈ F, b < B) → Rep w B t x) ?_ t
  intro k s n sh a l ih x F h hk
  simp only [Own] at h
  obtain ⟨h1, h2, h3, h4, h5, F1, F2, F3, F4, rfl, h6, h7, h8, h9⟩ := h
  refine ⟨h1, h2, h3, h4, h6.ints (fun b hb => hk b (by simp [hb])), h7.ints (fun b hb => hk b (by simp [hb])), h5, ?_⟩
  refine OwnL_rep l ih x.ka (fun b hb hl => ?_) 0 F4 h9 (fun b hb => hk b (by simp [hb]))
  have hpos : 0 < x.kl := by rw [h5]; exact List.length_pos_iff.2 hl
  obtain ⟨b', e, hF⟩ := h8.block hpos
  rw [hb] at e
  cases e
  exact hk b (by simp [hF])

/-- blocks from lo up to hi, no two alike -/
structure Fresh (lo hi : Nat) (F : List Nat) : Prop where
  nodup : F.Nodup
  lo : ∀ b ∈ F, lo ≤ b
  hi : ∀ b ∈ F, b < hi
theorem Fresh.nil (lo hi : Nat) : Fresh lo hi [] := ⟨List.nodup_nil, by simp, by simp⟩
theorem Fresh.one {lo hi b : Nat} (h1 : lo ≤ b) (h2 : b < hi) : Fresh lo hi [b] := ⟨by simp, by simpa using h1, by simpa using h2⟩
theorem Fresh.app {a b c : Nat} {F G : List Nat} (h : Fresh a b F) (k : Fresh b c G) (hab : a ≤ b) (hbc : b ≤ c) : Fresh a c (F ++ G) :=
  ⟨List.nodup_append.2 ⟨h.nodup, k.nodup, fun x hx y hy e => by have := h.hi x hx; have := k.lo y hy; omega⟩,
   fun x hx => by rcases List.mem_append.1 hx with hx | hx; exact h.lo x hx; have := k.lo x hx; omega,
   fun x hx => by rcases List.mem_append.1 hx with hx | hx; have := h.hi x hx; omega; exact k.hi x hx⟩
theorem Fresh.mono {a b a' b' : Nat} {F : List Nat} (h : Fresh a b F) (h1 : a' ≤ a) (h2 : b ≤ b') : Fresh a' b' F :=
  ⟨h.nodup, fun x hx => Nat.le_trans h1 (h.lo x hx), fun x hx => Nat.lt_of_lt_of_le (h.hi x hx) h2⟩
theorem Fresh.perm {a b : Nat} {F G : List Nat} (h : Fresh a b F) (p : F.Perm G) : Fresh a b G :=
  ⟨p.nodup_iff.1 h.nodup, fun x hx => h.lo x (p.mem_iff.2 hx), fun x hx => h.hi x (p.mem_iff.2 hx)⟩
theorem Own.below {w w' : World} {t : T} {x : TV} {F : List Nat} {lo hi B : Nat} (h : Own w t x F) (hf : Fresh lo hi F) (hb : Below B w w') (hB : hi ≤ B) : Own w' t x F :=
  Own.kept t x F h (fun b hb' => hb.block b (by have := hf.hi b hb'; omega))
end Go.Proofs.YtnnhbpgpkpbinaaGreat
