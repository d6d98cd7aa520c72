/- Terms in memory: when six cells read as a term, below a block's number. Terms in memory of their own: which blocks they hold. -/
import Derived.Test.YtpfkhdlnjefikaaGreatDoorMPureA
import Derived.WalkKit
import Derived.Deep.Draws
import Derived.OwnWalk
import Derived.Maps.AppendAt
set_option linter.unusedVariables false
set_option linter.unusedSimpArgs false
namespace Go.Proofs.YtpfkhdlnjefikaaGreatDoor
open Go.RowKit
theorem below_drewN {B : Nat} {a w : World} (h : Below B a w) (n : Nat) : Below B a (w.drewN n) := ⟨h.os, h.tape, h.output, h.size, h.block⟩
/-- A term's six cells, as they stand in memory or in a value. -/
structure TV where
 kind : Int
 text : ByteArray
 n : Int
 sa : Option Addr
 sl : Nat
 sc : Nat
 aa : Option Addr
 al : Nat
 ac : Nat
 ka : Option Addr
 kl : Nat
 kc : Nat
def TV.cells (x : TV) : Array Value := #[.int .i64 x.kind, .string x.text, .int .i64 x.n, .slice x.sa x.sl x.sc, .slice x.aa x.al x.ac, .slice x.ka x.kl x.kc]
def TV.val (x : TV) : Value := .agg x.cells
/-- The bounds that every reading has: lengths within capacities and the reach, numbers within 64 bits. -/
structure Wee (x : TV) : Prop where
 k0 : -9223372036854775808 ≤ x.kind
 k1 : x.kind ≤ 9223372036854775807
 n0 : -9223372036854775808 ≤ x.n
 n1 : x.n ≤ 9223372036854775807
 ts : x.text.size ≤ 140737488355328
 s0 : x.sl ≤ x.sc
 a0 : x.al ≤ x.ac
 l0 : x.kl ≤ x.kc
 s1 : x.sl ≤ 17592186044416
 a1 : x.al ≤ 17592186044416
 l1 : x.kl ≤ 2199023255552
 s2 : x.sc ≤ maxLen
 a2 : x.ac ≤ maxLen
 l2 : x.kc ≤ maxLen
/-- The six cells lie at a place. -/
structure At (w : World) (b o : Nat) (x : TV) : Prop where
 c0 : w.cell? ⟨b, o, none⟩ = some (.int .i64 x.kind)
 c1 : w.cell? ⟨b, o + 1, none⟩ = some (.string x.text)
 c2 : w.cell? ⟨b, o + 2, none⟩ = some (.int .i64 x.n)
 c3 : w.cell? ⟨b, o + 3, none⟩ = some (.slice x.sa x.sl x.sc)
 c4 : w.cell? ⟨b, o + 4, none⟩ = some (.slice x.aa x.al x.ac)
 c5 : w.cell? ⟨b, o + 5, none⟩ = some (.slice x.ka x.kl x.kc)
/-- w' holds below block B what w held. -/
def Keeps (B : Nat) (w w' : World) : Prop := ∀ b o, b < B → w'.cell? ⟨b, o, none⟩ = w.cell? ⟨b, o, none⟩
theorem Keeps.refl (B : Nat) (w : World) : Keeps B w w := fun _ _ _ => rfl
theorem Keeps.trans {B : Nat} {a b c : World} (h : Keeps B a b) (k : Keeps B b c) : Keeps B a c := fun x o hx => (k x o hx).trans (h x o hx)
theorem Keeps.mono {B B' : Nat} {a b : World} (h : Keeps B a b) (hB : B' ≤ B) : Keeps B' a b := fun x o hx => h x o (by omega)
theorem Keeps.of_below {B B' : Nat} {a b : World} (h : Below B a b) (hB : B' ≤ B) : Keeps B' a b := fun x o hx => h.cell (p := ⟨x, o, none⟩) (show x < B by omega)
theorem Keeps.of_grown {B : Nat} {a b : World} {row : Option Nat} (h : a.grownBy b row) (hB : B ≤ a.heap.size) (hr : ∀ g, row = some g → B ≤ g) : Keeps B a b := fun x o hx =>
 World.cell?_of_block (a := ⟨x, o, none⟩) (h.block x (by omega) (fun e => by have := hr x e.symm; omega))
theorem At.keep {B b o : Nat} {x : TV} {w w' : World} (h : At w b o x) (hb : b < B) (hk : Keeps B w w') : At w' b o x :=
 ⟨(hk b _ hb).trans h.c0, (hk b _ hb).trans h.c1, (hk b _ hb).trans h.c2, (hk b _ hb).trans h.c3, (hk b _ hb).trans h.c4, (hk b _ hb).trans h.c5⟩
/-- A list of numbers lies where a slice says, below block B. -/
def Ints (w : World) (B : Nat) (A : Option Addr) (len : Nat) (xs : List Int) : Prop :=
 xs.length = len ∧ (0 < len → ∃ b o, A = some ⟨b, o, none⟩ ∧ b < B ∧ ∀ (i : Nat) (v : Int), xs[i]? = some v → w.cell? ⟨b, o + i, none⟩ = some (.int .i64 v))
theorem Ints.keep {B len : Nat} {A : Option Addr} {xs : List Int} {w w' : World} (h : Ints w B A len xs) (hk : Keeps B w w') : Ints w' B A len xs :=
 ⟨h.1, fun hl => by
   obtain ⟨b, o, e, hb, hc⟩ := h.2 hl
   exact ⟨b, o, e, hb, fun i v hv => (hk b _ hb).trans (hc i v hv)⟩⟩
theorem Ints.mono {B B' len : Nat} {A : Option Addr} {xs : List Int} {w : World} (h : Ints w B A len xs) (hB : B ≤ B') : Ints w B' A len xs :=
 ⟨h.1, fun hl => by
   obtain ⟨b, o, e, hb, hc⟩ := h.2 hl
   exact ⟨b, o, e, by omega, hc⟩⟩
theorem Ints.nil (w : World) (B : Nat) (A : Option Addr) : Ints w B A 0 [] := ⟨rfl, fun h => absurd h (by omega)⟩
mutual
/-- Six cells read as a term, all lists below block B. -/
def Rep (w : World) (B : Nat) : T → TV → Prop
 | .mk k s n sh a l, x => Wee x ∧ x.kind = k ∧ x.text = s ∧ x.n = n ∧ Ints w B x.sa x.sl sh ∧ Ints w B x.aa x.al a ∧ x.kl = l.length ∧ RepL w B l x.ka 0
def RepL (w : World) (B : Nat) : List T → Option Addr → Nat → Prop
 | [], _, _ => True
 | t :: l, A, i => (∃ b o x, A = some ⟨b, o, none⟩ ∧ b < B ∧ At w b (o + i * 6) x ∧ Rep w B t x) ∧ RepL w B l A (i + 1)
end
theorem RepL_iff (w : World) (B : Nat) (l : List T) (A : Option Addr) (i : Nat) :
   RepL w B l A i ↔ ∀ (j : Nat) (t : T), l[j]? = some t → ∃ b o x, A = some ⟨b, o, none⟩ ∧ b < B ∧ At w b (o + (i + j) * 6) x ∧ Rep w B t x := by
 induction l generalizing i with
 | nil => simp [RepL]
 | cons t l ih =>
   simp only [RepL, ih]
   constructor
   · rintro ⟨h0, h1⟩ j u hu
     cases j with
     | zero => simp at hu; subst hu; exact h0
     | succ j =>
       have := h1 j u (by simpa using hu)
       rwa [show i + 1 + j = i + (j + 1) from by omega] at this
   · intro h
     refine ⟨h 0 t (by simp), fun j u hu => ?_⟩
     have := h (j + 1) u (by simpa using hu)
     rwa [show i + (j + 1) = i + 1 + j from by omega] at this
theorem Rep_iff (w : World) (B : Nat) (t : T) (x : TV) : Rep w B t x ↔
   Wee x ∧ x.kind = t.kind ∧ x.text = t.text ∧ x.n = t.n ∧ Ints w B x.sa x.sl t.shape ∧ Ints w B x.aa x.al t.atoms ∧ x.kl = t.kids.length ∧
     ∀ (j : Nat) (u : T), t.kids[j]? = some u → ∃ b o y, x.ka = some ⟨b, o, none⟩ ∧ b < B ∧ At w b (o + j * 6) y ∧ Rep w B u y := by
 cases t with
 | mk k s n sh a l =>
   simp only [Rep, RepL_iff, T.kind_mk, T.text_mk, T.n_mk, T.shape_mk, T.atoms_mk, T.kids_mk, Nat.zero_add]
theorem Rep.keep {B : Nat} {w w' : World} (hk : Keeps B w w') (t : T) : ∀ x, Rep w B t x → Rep w' B t x := by
 refine T.ind (P := fun t => ∀ x, Rep w B t x → Rep w' B t x) ?_ t
 intro k s n sh a l ih x h
 rw [Rep_iff] at h ⊢
 obtain ⟨h0, h1, h2, h3, h4, h5, h6, h7⟩ := h
 refine ⟨h0, h1, h2, h3, h4.keep hk, h5.keep hk, h6, fun j u hu => ?_⟩
 obtain ⟨b, o, y, e, hb, hat, hr⟩ := h7 j u hu
 exact ⟨b, o, y, e, hb, hat.keep hb hk, ih u (List.mem_of_getElem? hu) y hr⟩
theorem Rep.mono {B B' : Nat} {w : World} (hB : B ≤ B') (t : T) : ∀ x, Rep w B t x → Rep w B' t x := by
 refine T.ind (P := fun t => ∀ x, Rep w B t x → Rep w B' t x) ?_ t
 intro k s n sh a l ih x h
 rw [Rep_iff] at h ⊢
 obtain ⟨h0, h1, h2, h3, h4, h5, h6, h7⟩ := h
 refine ⟨h0, h1, h2, h3, h4.mono hB, h5.mono hB, h6, fun j u hu => ?_⟩
 obtain ⟨b, o, y, e, hb, hat, hr⟩ := h7 j u hu
 exact ⟨b, o, y, e, by omega, hat, ih u (List.mem_of_getElem? hu) y hr⟩
theorem Rep.below {B B' : Nat} {w w' : World} {t : T} {x : TV} (h : Rep w B t x) (hb : Below B' w w') (hB : B ≤ B') : Rep w' B t x := Rep.keep (Keeps.of_below hb hB) t x h
theorem Rep.kid {B : Nat} {w : World} {t : T} {x : TV} (h : Rep w B t x) {j : Nat} {u : T} (hj : t.kids[j]? = some u) : ∃ b o y, x.ka = some ⟨b, o, none⟩ ∧ b < B ∧ At w b (o + j * 6) y ∧ Rep w B u y :=
 ((Rep_iff w B t x).1 h).2.2.2.2.2.2.2 j u hj
theorem Rep.wee {B : Nat} {w : World} {t : T} {x : TV} (h : Rep w B t x) : Wee x := ((Rep_iff w B t x).1 h).1
theorem Rep.kl {B : Nat} {w : World} {t : T} {x : TV} (h : Rep w B t x) : x.kl = t.kids.length := ((Rep_iff w B t x).1 h).2.2.2.2.2.2.1
theorem Rep.kind {B : Nat} {w : World} {t : T} {x : TV} (h : Rep w B t x) : x.kind = t.kind := ((Rep_iff w B t x).1 h).2.1
theorem Rep.text {B : Nat} {w : World} {t : T} {x : TV} (h : Rep w B t x) : x.text = t.text := ((Rep_iff w B t x).1 h).2.2.1
theorem Rep.n {B : Nat} {w : World} {t : T} {x : TV} (h : Rep w B t x) : x.n = t.n := ((Rep_iff w B t x).1 h).2.2.2.1
theorem Rep.shape {B : Nat} {w : World} {t : T} {x : TV} (h : Rep w B t x) : Ints w B x.sa x.sl t.shape := ((Rep_iff w B t x).1 h).2.2.2.2.1
theorem Rep.atoms {B : Nat} {w : World} {t : T} {x : TV} (h : Rep w B t x) : Ints w B x.aa x.al t.atoms := ((Rep_iff w B t x).1 h).2.2.2.2.2.1
end Go.Proofs.YtpfkhdlnjefikaaGreatDoor
namespace Go.Proofs.YtpfkhdlnjefikaaGreatDoor
open Go.RowKit
/-- a slice of elements of so many cells: of no capacity, or at the head of a block of its own. -/
def OwnB (w : World) (ty size : Nat) (A : Option Addr) (len cap : Nat) (F : List Nat) : Prop :=
 (len = 0 ∧ cap = 0 ∧ F = []) ∨ ∃ b cur, A = some ⟨b, 0, none⟩ ∧ F = [b] ∧ w.heap[b]? = some (.cells cur ty (0, 0)) ∧ len ≤ cap ∧ cap ≤ maxLen ∧ cap * size ≤ cur.size
/-- a list of numbers in a block of its own -/
def OwnI (w : World) (ty : Nat) (A : Option Addr) (len cap : Nat) (xs : List Int) (F : List Nat) : Prop :=
 xs.length = len ∧ OwnB w ty 1 A len cap F ∧ ∀ b, A = some ⟨b, 0, none⟩ → ∀ (i : Nat) (v : Int), xs[i]? = some v → w.cell? ⟨b, i, none⟩ = some (.int .i64 v)
mutual
/-- Six cells read as a term that holds the blocks of a list. -/
def Own (w : World) : T → TV → List Nat → Prop
 | .mk k s n sh a l, x, F => Wee x ∧ x.kind = k ∧ x.text = s ∧ x.n = n ∧ x.kl = l.length ∧
   ∃ F1 F2 F3 F4, F = F1 ++ F2 ++ F3 ++ F4 ∧ OwnI w 3 x.sa x.sl x.sc sh F1 ∧ OwnI w 2 x.aa x.al x.ac a F2 ∧ OwnB w 34 6 x.ka x.kl x.kc F3 ∧ OwnL w l x.ka 0 F4
def OwnL (w : World) : List T → Option Addr → Nat → List Nat → Prop
 | [], _, _, F => F = []
 | t :: l, A, i, F => ∃ F1 F2, F = F1 ++ F2 ∧ (∃ b x, A = some ⟨b, 0, none⟩ ∧ At w b (i * 6) x ∧ Own w t x F1) ∧ OwnL w l A (i + 1) F2
end
theorem OwnB.kept {w w' : World} {ty size : Nat} {A : Option Addr} {len cap : Nat} {F : List Nat} (h : OwnB w ty size A len cap F) (hk : ∀ b ∈ F, w'.heap[b]? = w.heap[b]?) : OwnB w' ty size A len cap F := by
 rcases h with h | ⟨b, cur, h1, h2, h3, h4⟩
 · exact .inl h
 · exact .inr ⟨b, cur, h1, h2, (hk b (by simp [h2])).trans h3, h4⟩
theorem OwnB.block {w : World} {ty size : Nat} {A : Option Addr} {len cap : Nat} {F : List Nat} (h : OwnB w ty size A len cap F) (hl : 0 < len) : ∃ b, A = some ⟨b, 0, none⟩ ∧ F = [b] := by
 rcases h with h | ⟨b, cur, h1, h2, _⟩
 · omega
 · exact ⟨b, h1, h2⟩
theorem cell_of_heap {w w' : World} {b o : Nat} (h : w'.heap[b]? = w.heap[b]?) : w'.cell? ⟨b, o, none⟩ = w.cell? ⟨b, o, none⟩ := World.cell?_of_block (a := ⟨b, o, none⟩) h
theorem OwnI.kept {w w' : World} {ty : Nat} {A : Option Addr} {len cap : Nat} {xs : List Int} {F : List Nat} (h : OwnI w ty A len cap xs F) (hk : ∀ b ∈ F, w'.heap[b]? = w.heap[b]?) : OwnI w' ty A len cap xs F := by
 obtain ⟨h1, h2, h3⟩ := h
 refine ⟨h1, h2.kept hk, fun b hb i v hv => ?_⟩
 have hlt := (List.getElem?_eq_some_iff.1 hv).1
 obtain ⟨b', e, hF⟩ := h2.block (by omega)
 rw [hb] at e
 cases e
 rw [cell_of_heap (hk b (by simp [hF]))]
 exact h3 b hb i v hv
theorem At.kept {w w' : World} {b o : Nat} {x : TV} (h : At w b o x) (hk : w'.heap[b]? = w.heap[b]?) : At w' b o x :=
 ⟨(cell_of_heap hk).trans h.c0, (cell_of_heap hk).trans h.c1, (cell_of_heap hk).trans h.c2, (cell_of_heap hk).trans h.c3, (cell_of_heap hk).trans h.c4, (cell_of_heap hk).trans h.c5⟩
theorem Own_kids {w w' : World} (l : List T) (ih : ∀ t ∈ l, ∀ x F, Own w t x F → (∀ b ∈ F, w'.heap[b]? = w.heap[b]?) → Own w' t x F) (A : Option Addr) (hA : ∀ b, A = some ⟨b, 0, none⟩ → l ≠ [] → w'.heap[b]? = w.heap[b]?) :
   ∀ (i : Nat) (F : List Nat), OwnL w l A i F → (∀ b ∈ F, w'.heap[b]? = w.heap[b]?) → OwnL w' l A i F := by
 induction l with
 | nil => exact fun _ _ h _ => h
 | cons t l ihl =>
   intro i F h hk
   obtain ⟨F1, F2, rfl, ⟨b, x, hb, hat, ho⟩, hr⟩ := h
   refine ⟨F1, F2, rfl, ⟨b, x, hb, hat.kept (hA b hb (by simp)), ih t (by simp) x F1 ho (fun c hc => hk c (by simp [hc]))⟩, ?_⟩
   exact ihl (fun u hu => ih u (by simp [hu])) (fun c hc _ => hA c hc (by simp)) (i + 1) F2 hr (fun c hc => hk c (by simp [hc]))
/-- what a term holds unchanged, the term is -/
theorem Own.kept {w w' : World} (t : T) : ∀ (x : TV) (F : List Nat), Own w t x F → (∀ b ∈ F, w'.heap[b]? = w.heap[b]?) → Own w' t x F := by
 refine T.ind (P := fun t => ∀ (x : TV) (F : List Nat), Own w t x F → (∀ b ∈ F, w'.heap[b]? = w.heap[b]?) → Own w' t x F) ?_ t
 intro k s n sh a l ih x F h hk
 simp only [Own] at h ⊢
 obtain ⟨h1, h2, h3, h4, h5, F1, F2, F3, F4, rfl, h6, h7, h8, h9⟩ := h
 refine ⟨h1, h2, h3, h4, h5, F1, F2, F3, F4, rfl, h6.kept (fun b hb => hk b (by simp [hb])), h7.kept (fun b hb => hk b (by simp [hb])), h8.kept (fun b hb => hk b (by simp [hb])), ?_⟩
 refine Own_kids l ih x.ka (fun b hb hl => ?_) 0 F4 h9 (fun b hb => hk b (by simp [hb]))
 have hpos : 0 < x.kl := by rw [h5]; exact List.length_pos_iff.2 hl
 obtain ⟨b', e, hF⟩ := h8.block hpos
 rw [hb] at e
 cases e
 exact hk b (by simp [hF])
theorem OwnI.ints {w : World} {ty : Nat} {A : Option Addr} {len cap : Nat} {xs : List Int} {F : List Nat} {B : Nat} (h : OwnI w ty A len cap xs F) (hF : ∀ b ∈ F, b < B) : Ints w B A len xs := by
 obtain ⟨h1, h2, h3⟩ := h
 refine ⟨h1, fun hl => ?_⟩
 obtain ⟨b, e, hb⟩ := h2.block hl
 exact ⟨b, 0, e, hF b (by simp [hb]), fun i v hv => by rw [Nat.zero_add]; exact h3 b e i v hv⟩
theorem OwnL_rep {w : World} {B : Nat} (l : List T) (ih : ∀ t ∈ l, ∀ x F, Own w t x F → (∀ b ∈ F, b < B) → Rep w B t x) (A : Option Addr) (hA : ∀ b, A = some ⟨b, 0, none⟩ → l ≠ [] → b < B) :
   ∀ (i : Nat) (F : List Nat), OwnL w l A i F → (∀ b ∈ F, b < B) → RepL w B l A i := by
 induction l with
 | nil => exact fun _ _ _ _ => trivial
 | cons t l ihl =>
   intro i F h hk
   obtain ⟨F1, F2, rfl, ⟨b, x, hb, hat, ho⟩, hr⟩ := h
   refine ⟨⟨b, 0, x, hb, hA b hb (by simp), by rw [Nat.zero_add]; exact hat, ih t (by simp) x F1 ho (fun c hc => hk c (by simp [hc]))⟩, ?_⟩
   exact ihl (fun u hu => ih u (by simp [hu])) (fun c hc _ => hA c hc (by simp)) (i + 1) F2 hr (fun c hc => hk c (by simp [hc]))
/-- a term of its own reads as the term -/
theorem Own.rep {w : World} {B : Nat} (t : T) : ∀ (x : TV) (F : List Nat), Own w t x F → (∀ b ∈ F, b < B) → Rep w B t x := by
 refine T.ind (P := fun t => ∀ (x : TV) (F : List Nat), Own w t x F → (∀ b ∈ F, b < B) → Rep w B t x) ?_ t
 intro k s n sh a l ih x F h hk
 simp only [Own] at h
 obtain ⟨h1, h2, h3, h4, h5, F1, F2, F3, F4, rfl, h6, h7, h8, h9⟩ := h
 refine ⟨h1, h2, h3, h4, h6.ints (fun b hb => hk b (by simp [hb])), h7.ints (fun b hb => hk b (by simp [hb])), h5, ?_⟩
 refine OwnL_rep l ih x.ka (fun b hb hl => ?_) 0 F4 h9 (fun b hb => hk b (by simp [hb]))
 have hpos : 0 < x.kl := by rw [h5]; exact List.length_pos_iff.2 hl
 obtain ⟨b', e, hF⟩ := h8.block hpos
 rw [hb] at e
 cases e
 exact hk b (by simp [hF])
/-- blocks from lo up to hi, no two alike -/
structure Fresh (lo hi : Nat) (F : List Nat) : Prop where
 nodup : F.Nodup
 lo : ∀ b ∈ F, lo ≤ b
 hi : ∀ b ∈ F, b < hi
theorem Fresh.nil (lo hi : Nat) : Fresh lo hi [] := ⟨List.nodup_nil, by simp, by simp⟩
theorem Fresh.one {lo hi b : Nat} (h1 : lo ≤ b) (h2 : b < hi) : Fresh lo hi [b] := ⟨by simp, by simpa using h1, by simpa using h2⟩
theorem Fresh.app {a b c : Nat} {F G : List Nat} (h : Fresh a b F) (k : Fresh b c G) (hab : a ≤ b) (hbc : b ≤ c) : Fresh a c (F ++ G) :=
 ⟨List.nodup_append.2 ⟨h.nodup, k.nodup, fun x hx y hy e => by have := h.hi x hx; have := k.lo y hy; omega⟩,
  fun x hx => by rcases List.mem_append.1 hx with hx | hx; exact h.lo x hx; have := k.lo x hx; omega,
  fun x hx => by rcases List.mem_append.1 hx with hx | hx; have := h.hi x hx; omega; exact k.hi x hx⟩
theorem Fresh.mono {a b a' b' : Nat} {F : List Nat} (h : Fresh a b F) (h1 : a' ≤ a) (h2 : b ≤ b') : Fresh a' b' F :=
 ⟨h.nodup, fun x hx => Nat.le_trans h1 (h.lo x hx), fun x hx => Nat.lt_of_lt_of_le (h.hi x hx) h2⟩
theorem Fresh.perm {a b : Nat} {F G : List Nat} (h : Fresh a b F) (p : F.Perm G) : Fresh a b G :=
 ⟨p.nodup_iff.1 h.nodup, fun x hx => h.lo x (p.mem_iff.2 hx), fun x hx => h.hi x (p.mem_iff.2 hx)⟩
theorem Own.below {w w' : World} {t : T} {x : TV} {F : List Nat} {lo hi B : Nat} (h : Own w t x F) (hf : Fresh lo hi F) (hb : Below B w w') (hB : hi ≤ B) : Own w' t x F :=
 Own.kept t x F h (fun b hb' => hb.block b (by have := hf.hi b hb'; omega))
end Go.Proofs.YtpfkhdlnjefikaaGreatDoor
