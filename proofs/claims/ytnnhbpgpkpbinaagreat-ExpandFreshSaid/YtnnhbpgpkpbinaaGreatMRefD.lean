/- The plain law of the document's row of nodes: breadth first, it comes to an end just where the term is not too great. The document's row of nodes in memory. -/
import Derived.Test.YtnnhbpgpkpbinaaGreatMPureA
import Derived.Test.YtnnhbpgpkpbinaaGreatMRefC
import Derived.Test.YtnnhbpgpkpbinaaGreatMTwinA
set_option linter.unusedVariables false
set_option linter.unusedSimpArgs false
namespace Go.Proofs.YtnnhbpgpkpbinaaGreat

/-- a node of a row -/
structure RN where
  t : T
  d : Nat
  b : Bool
def RN.kids (n : RN) : List RN := n.t.kids.map fun u => ⟨u, n.d + 1, n.t.under n.b⟩
def RN.right (n : RN) : Bool := n.t.node n.b
def sumQ (l : List RN) : Nat := (l.map fun n => n.t.nodes).sum
def maxP (l : List RN) : Nat := l.foldr (fun n m => max n.d m) 0
def maxQ (l : List RN) : Nat := l.foldr (fun n m => max (n.d + n.t.height - 1) m) 0

theorem sumQ_app (l r : List RN) : sumQ (l ++ r) = sumQ l + sumQ r := by simp [sumQ]
theorem maxP_app (l r : List RN) : maxP (l ++ r) = max (maxP l) (maxP r) := by
  induction l with
  | nil => simp [maxP]
  | cons n l ih =>
    have e : ∀ s, maxP (n :: s) = max n.d (maxP s) := fun _ => rfl
    rw [List.cons_append, e, e, ih]; omega
theorem maxQ_app (l r : List RN) : maxQ (l ++ r) = max (maxQ l) (maxQ r) := by
  induction l with
  | nil => simp [maxQ]
  | cons n l ih =>
    have e : ∀ s, maxQ (n :: s) = max (n.d + n.t.height - 1) (maxQ s) := fun _ => rfl
    rw [List.cons_append, e, e, ih]; omega
theorem sumQ_ge (l : List RN) : l.length ≤ sumQ l := by
  induction l with
  | nil => simp [sumQ]
  | cons n l ih =>
    have := T.nodes_pos n.t
    have e : sumQ (n :: l) = n.t.nodes + sumQ l := by simp [sumQ]
    rw [e]; simp; omega
theorem sumQ_kids (n : RN) : n.t.nodes = 1 + sumQ n.kids := by
  obtain ⟨t, d, b⟩ := n
  cases t with
  | mk k s m sh a l =>
    have e : ∀ (l : List T) (d : Nat) (b : Bool), sumQ (l.map fun u => (⟨u, d, b⟩ : RN)) = T.nodesL l := by
      intro l d b
      induction l with
      | nil => rfl
      | cons u l ih =>
        have e1 : sumQ ((u :: l).map fun u => (⟨u, d, b⟩ : RN)) = u.nodes + sumQ (l.map fun u => (⟨u, d, b⟩ : RN)) := by simp [sumQ]
        rw [e1, ih, T.nodesL]
    show (T.mk k s m sh a l).nodes = 1 + sumQ (l.map _)
    rw [e, T.nodes]
theorem maxQ_kids (n : RN) (hd : 1 ≤ n.d) : n.d + n.t.height - 1 = max n.d (maxQ n.kids) := by
  obtain ⟨t, d, b⟩ := n
  cases t with
  | mk k s m sh a l =>
    have e : ∀ (l : List T) (b : Bool), max d (maxQ (l.map fun u => (⟨u, d + 1, b⟩ : RN))) = d + T.heightL l := by
      intro l b
      induction l with
      | nil => simp [maxQ, T.heightL]
      | cons u l ih =>
        have e1 : maxQ ((u :: l).map fun u => (⟨u, d + 1, b⟩ : RN)) = max (d + 1 + u.height - 1) (maxQ (l.map fun u => (⟨u, d + 1, b⟩ : RN))) := rfl
        rw [e1, T.heightL]
        omega
    show d + (T.mk k s m sh a l).height - 1 = max d (maxQ (l.map _))
    rw [e, T.height]
    omega
theorem rn_good_kids (n : RN) : n.t.good n.b = (n.right && n.kids.all fun u => u.t.good u.b) := by
  obtain ⟨t, d, b⟩ := n
  cases t with
  | mk k s m sh a l =>
    have e : ∀ (l : List T) (b : Bool), ((l.map fun u => (⟨u, d + 1, b⟩ : RN)).all fun u => u.t.good u.b) = T.goodL l b := by
      intro l b
      induction l with
      | nil => rfl
      | cons u l ih => simp only [List.map_cons, List.all_cons, ih, T.goodL]
    show (T.mk k s m sh a l).good b = ((T.mk k s m sh a l).node b && (l.map _).all _)
    rw [e, T.good]

/-- WHAT HOLDS AT A ROUND's HEAD: P: done; Q: to come. -/
structure RowInv (t : T) (P Q : List RN) : Prop where
  count : P.length + sumQ Q = t.nodes
  deep : max (maxP P) (maxQ Q) = t.height
  good : (P.all RN.right && Q.all fun u => u.t.good u.b) = t.good false
  pos : ∀ n ∈ Q, 1 ≤ n.d
  rise : (P ++ Q).Pairwise fun a b => a.d ≤ b.d
  near : ∀ n Q', Q = n :: Q' → ∀ m ∈ Q, m.d ≤ n.d + 1
  low : ∀ n ∈ P, n.d ≤ 256

theorem RowInv.start (t : T) : RowInv t [] [⟨t, 1, false⟩] := by
  have := T.height_pos t
  refine ⟨by simp [sumQ], ?_, by simp, ?_, by simp, ?_, by simp⟩
  · show max 0 (max (1 + t.height - 1) 0) = _
    omega
  · intro n hn; simp at hn; subst hn; exact Nat.le_refl 1
  · intro n Q' h m hm; simp at h hm; obtain ⟨rfl, _⟩ := h; subst hm; omega
theorem RowInv.step {t : T} {P Q : List RN} {n : RN} (h : RowInv t P (n :: Q)) (hd : n.d ≤ 256) : RowInv t (P ++ [n]) (Q ++ n.kids) := by
  have hk : ∀ m ∈ n.kids, m.d = n.d + 1 := by
    intro m hm
    obtain ⟨u, _, rfl⟩ := List.mem_map.1 hm
    rfl
  have hp := h.pos n (by simp)
  have hs := List.pairwise_append.1 h.rise
  have hs2 := List.pairwise_cons.1 hs.2.1
  refine ⟨?_, ?_, ?_, ?_, ?_, ?_, ?_⟩
  · have h1 := h.count
    have h2 := sumQ_kids n
    have e : sumQ (n :: Q) = n.t.nodes + sumQ Q := by simp [sumQ]
    rw [sumQ_app]; simp; omega
  · have h1 := h.deep
    have h2 := maxQ_kids n hp
    have e : maxQ (n :: Q) = max (n.d + n.t.height - 1) (maxQ Q) := rfl
    have e2 : maxP [n] = max n.d 0 := rfl
    rw [maxP_app, maxQ_app]; omega
  · have e : ((n :: Q).all fun u => u.t.good u.b) = ((n.right && n.kids.all fun u => u.t.good u.b) && Q.all fun u => u.t.good u.b) := by
      rw [List.all_cons, rn_good_kids]
    rw [← h.good, e, List.all_append, List.all_append]
    simp only [List.all_cons, List.all_nil, Bool.and_true]
    cases P.all RN.right <;> cases n.right <;> cases (Q.all fun u => u.t.good u.b) <;> cases (n.kids.all fun u => u.t.good u.b) <;> rfl
  · intro m hm
    rcases List.mem_append.1 hm with hm | hm
    · exact h.pos m (by simp [hm])
    · have := hk m hm; omega
  · rw [List.append_assoc, show [n] ++ (Q ++ n.kids) = (n :: Q) ++ n.kids from rfl, ← List.append_assoc, List.pairwise_append]
    refine ⟨h.rise, ?_, ?_⟩
    · rw [List.pairwise_iff_forall_sublist]
      intro a b hab
      have h1 := hk a (hab.subset (by simp))
      have h2 := hk b (hab.subset (by simp))
      omega
    · intro a ha b hb
      have h2 := hk b hb
      rcases List.mem_append.1 ha with ha | ha
      · have := hs.2.2 a ha n (by simp)
        omega
      · have := h.near n Q rfl a ha
        omega
  · intro m Q' he u hu
    rcases List.mem_append.1 hu with hu | hu
    · have h1 := h.near n Q rfl u (by simp [hu])
      have h2 : n.d ≤ m.d := by
        have hm : m ∈ Q ++ n.kids := by rw [he]; simp
        rcases List.mem_append.1 hm with hm | hm
        · exact hs2.1 m hm
        · have := hk m hm; omega
      omega
    · have h1 := hk u hu
      have h2 : n.d ≤ m.d := by
        have hm : m ∈ Q ++ n.kids := by rw [he]; simp
        rcases List.mem_append.1 hm with hm | hm
        · exact hs2.1 m hm
        · have := hk m hm; omega
      omega
  · intro m hm
    rcases List.mem_append.1 hm with hm | hm
    · exact h.low m hm
    · simp at hm; subst hm; exact hd
/-- too deep -/
theorem RowInv.deepNot {t : T} {P Q : List RN} {n : RN} (h : RowInv t P (n :: Q)) (hd : 256 < n.d) : ¬ t.fits := by
  have h1 := h.deep
  have e : maxQ (n :: Q) = max (n.d + n.t.height - 1) (maxQ Q) := rfl
  have := T.height_pos n.t
  intro hf
  have := hf.2
  omega
/-- too many -/
theorem RowInv.manyNot {t : T} {P Q : List RN} {n : RN} (h : RowInv t P (n :: Q)) (hm : 4096 < (P ++ n :: Q).length + n.t.kids.length) : ¬ t.fits := by
  have h1 := h.count
  have e : sumQ (n :: Q) = n.t.nodes + sumQ Q := by simp [sumQ]
  have h2 := sumQ_kids n
  have h3 := sumQ_ge n.kids
  have h4 := sumQ_ge Q
  have h5 : n.kids.length = n.t.kids.length := by simp [RN.kids]
  intro hf
  have := hf.1
  simp at hm
  omega
theorem maxP_le {l : List RN} {B : Nat} (h : ∀ n ∈ l, n.d ≤ B) : maxP l ≤ B := by
  induction l with
  | nil => simp [maxP]
  | cons n l ih =>
    have e : maxP (n :: l) = max n.d (maxP l) := rfl
    have := h n (by simp)
    have := ih (fun m hm => h m (by simp [hm]))
    omega
theorem maxP_last {l : List RN} {n : RN} (h : (l ++ [n]).Pairwise fun a b => a.d ≤ b.d) : maxP (l ++ [n]) = n.d := by
  have h1 := List.pairwise_append.1 h
  have h2 : maxP l ≤ n.d := maxP_le fun m hm => h1.2.2 m hm n (by simp)
  have e : maxP [n] = max n.d 0 := rfl
  rw [maxP_app]; omega
/-- AT THE END: it fits; as many as its nodes; the last as deep as it. -/
theorem RowInv.ends {t : T} {P : List RN} (h : RowInv t P []) (hl : P.length ≤ 4096) : t.fits ∧ P.length = t.nodes ∧ P.all RN.right = t.good false ∧ ∀ P' n, P = P' ++ [n] → n.d = t.height := by
  have h1 := h.count
  have h2 := h.deep
  have h3 := h.good
  have e1 : sumQ [] = 0 := rfl
  have e2 : maxQ [] = 0 := rfl
  have h4 := maxP_le h.low
  refine ⟨⟨by omega, by omega⟩, by omega, by simpa using h3, ?_⟩
  rintro P' n rfl
  have := maxP_last (l := P') (n := n) (by simpa using h.rise)
  omega
end Go.Proofs.YtnnhbpgpkpbinaaGreat

namespace Go.Proofs.YtnnhbpgpkpbinaaGreat
open Go.RowKit

/-- a node's eight cells -/
def nodeCells (x : TV) (d : Nat) (b : Bool) : List Value := [.int .i64 x.kind, .string x.text, .int .i64 x.n, .slice x.sa x.sl x.sc, .slice x.aa x.al x.ac, .slice x.ka x.kl x.kc, .int .i64 d, .bool b]
def nodeRow : List RN → List TV → List Value
  | n :: l, x :: xs => nodeCells x n.d n.b ++ nodeRow l xs
  | _, _ => []
theorem nodeRow_snoc : ∀ (l : List RN) (xs : List TV) (n : RN) (x : TV), xs.length = l.length → nodeRow (l ++ [n]) (xs ++ [x]) = nodeRow l xs ++ nodeCells x n.d n.b
  | [], [], n, x, _ => by simp [nodeRow]
  | m :: l, y :: ys, n, x, h => by
    have := nodeRow_snoc l ys n x (by simpa using h)
    simp [nodeRow, this]
  | [], _ :: _, _, _, h => by simp at h
  | _ :: _, [], _, _, h => by simp at h
theorem nodeRow_get : ∀ (l : List RN) (xs : List TV) (j : Nat) (n : RN) (x : TV) (i : Nat), l[j]? = some n → xs[j]? = some x → i < 8 → (nodeRow l xs)[j * 8 + i]? = (nodeCells x n.d n.b)[i]?
  | m :: l, y :: ys, 0, n, x, i, h1, h2, hi => by
    simp at h1 h2
    subst h1; subst h2
    rw [nodeRow, Nat.zero_mul, Nat.zero_add, List.getElem?_append_left (by simp [nodeCells]; omega)]
  | m :: l, y :: ys, j + 1, n, x, i, h1, h2, hi => by
    have := nodeRow_get l ys j n x i (by simpa using h1) (by simpa using h2) hi
    rw [nodeRow, List.getElem?_append_right (by simp [nodeCells]; omega), ← this]
    congr 1
    simp [nodeCells]; omega
  | [], _, _, _, _, _, h, _, _ => by simp at h
  | _ :: _, [], _, _, _, _, _, h, _ => by simp at h

structure NodeAt (w : World) (g o : Nat) (x : TV) (d : Nat) (b : Bool) : Prop where
  c0 : w.cell? ⟨g, o, none⟩ = some (.int .i64 x.kind)
  c1 : w.cell? ⟨g, o + 1, none⟩ = some (.string x.text)
  c2 : w.cell? ⟨g, o + 2, none⟩ = some (.int .i64 x.n)
  c3 : w.cell? ⟨g, o + 3, none⟩ = some (.slice x.sa x.sl x.sc)
  c4 : w.cell? ⟨g, o + 4, none⟩ = some (.slice x.aa x.al x.ac)
  c5 : w.cell? ⟨g, o + 5, none⟩ = some (.slice x.ka x.kl x.kc)
  c6 : w.cell? ⟨g, o + 6, none⟩ = some (.int .i64 d)
  c7 : w.cell? ⟨g, o + 7, none⟩ = some (.bool b)

/-- a row of nodes, in memory of its own -/
structure RowMem (w : World) (B : Nat) (l : List RN) (xs : List TV) (v : Value) (wr : World) : Prop where
  below : Below w.heap.size w wr
  row : wr.ownsRow w.heap.size 74 8 v l.length (nodeRow l xs)
  reps : ∀ (j : Nat) (n : RN), l[j]? = some n → ∃ x, xs[j]? = some x ∧ Rep w B n.t x
  len : xs.length = l.length

theorem RowMem.at {w wr : World} {B : Nat} {l : List RN} {xs : List TV} {v : Value} (h : RowMem w B l xs v wr) (hB : B ≤ w.heap.size) {j : Nat} {n : RN} (hj : l[j]? = some n) :
    ∃ g cap x, v = .slice (some ⟨g, 0, none⟩) l.length cap ∧ w.heap.size ≤ g ∧ g < wr.heap.size ∧ l.length ≤ cap ∧ cap ≤ maxLen ∧ NodeAt wr g (j * 8) x n.d n.b ∧ Rep wr B n.t x ∧ xs[j]? = some x := by
  obtain ⟨x, hx, hr⟩ := h.reps j n hj
  have hjl : j < l.length := (List.getElem?_eq_some_iff.1 hj).1
  have hrow := h.row
  obtain ⟨hl, ⟨_, h0⟩ | ⟨g, cap, cur, e, hg, hcur, hn, hc, hs, ht⟩⟩ := hrow
  · omega
  have hcell : ∀ i, i < 8 → wr.cell? ⟨g, j * 8 + i, none⟩ = (nodeCells x n.d n.b)[i]? := by
    intro i hi
    have h1 := nodeRow_get l xs j n x i hj hx hi
    rw [← ht, List.getElem?_take, if_pos (by omega)] at h1
    rw [← h1]
    simp [World.cell?, hcur]
  have hlt : g < wr.heap.size := (Array.getElem?_eq_some_iff.1 hcur).1
  exact ⟨g, cap, x, e, hg, hlt, hn, hc, ⟨hcell 0 (by omega), hcell 1 (by omega), hcell 2 (by omega), hcell 3 (by omega), hcell 4 (by omega), hcell 5 (by omega), hcell 6 (by omega), hcell 7 (by omega)⟩, hr.below h.below hB, hx⟩

theorem RowMem.start {w : World} {B : Nat} {t : T} {x : TV} (hr : Rep w B t x) (cs : Array Value) (ty : TypeId) (hB : B ≤ w.heap.size) :
    RowMem w B [⟨t, 1, false⟩] [x] (.slice (some ⟨w.heap.size + 1, 0, none⟩) 1 1) ((w.alloc (.cells cs ty)).alloc (.cells (nodeCells x 1 false).toArray 74)) := by
  refine ⟨((Below.refl _ _).alloc (Nat.le_refl _) _).alloc (by simp) _, ⟨rfl, .inr ⟨w.heap.size + 1, 1, (nodeCells x 1 false).toArray, rfl, by omega, ?_, Nat.le_refl _, by decide, rfl, rfl⟩⟩, ?_, rfl⟩
  · have := heap_new (w.alloc (.cells cs ty)) (.cells (nodeCells x 1 false).toArray 74)
    simpa using this
  · intro j n hj
    match j, hj with
    | 0, hj => simp at hj; subst hj; exact ⟨x, rfl, hr⟩
    | j + 1, hj => simp at hj

/-- one node more -/
theorem RowMem.step {w wr w3 : World} {B : Nat} {l : List RN} {xs : List TV} {v v' : Value} {n : RN} {y : TV} (h : RowMem w B l xs v wr) (hy : Rep w B n.t y) (o : Obj)
    (hg : (wr.alloc o).grownBy w3 v.ownBlock) (hown : w3.ownsRow w.heap.size 74 8 v' (l.length + 1) (nodeRow l xs ++ nodeCells y n.d n.b)) : RowMem w B (l ++ [n]) (xs ++ [y]) v' w3 := by
  have hlt := h.row.lt
  refine ⟨(h.below.alloc h.below.size o).grown hg (by have := h.below.size; simp; omega) (fun g e => (hlt g e).1), ?_, ?_, by simp [h.len]⟩
  · rw [nodeRow_snoc _ _ _ _ h.len]
    simpa using hown
  · intro j m hj
    by_cases hjl : j < l.length
    · obtain ⟨x, hx, hr⟩ := h.reps j m (by rwa [List.getElem?_append_left hjl] at hj)
      exact ⟨x, by rw [List.getElem?_append_left (by rw [h.len]; exact hjl)]; exact hx, hr⟩
    · have e : j = l.length := by
        have := (List.getElem?_eq_some_iff.1 hj).1
        simp at this; omega
      subst e
      simp at hj; subst hj
      exact ⟨y, by rw [← h.len]; simp, hy⟩
end Go.Proofs.YtnnhbpgpkpbinaaGreat
