/- Lay: the row of kids as it grows; lists with marks. -/
import Derived.Test.YtnnhbpgpkpbinaaGreatMLay2
import Derived.Test.YtnnhbpgpkpbinaaGreatMRefG
set_option linter.unusedVariables false
set_option linter.unusedSimpArgs false
namespace Go.Proofs.YtnnhbpgpkpbinaaGreat
open Go.RowKit

/-- terms of their own, side by side -/
def LaidK (w : World) : List T → List TV → List Nat → Prop
  | [], [], F => F = []
  | t :: l, y :: ys, F => ∃ F1 F2, F = F1 ++ F2 ∧ Laid w t y F1 ∧ LaidK w l ys F2
  | _, _, _ => False
theorem LaidK.snoc {w : World} {t : T} {y : TV} {G : List Nat} (ht : Laid w t y G) : ∀ {l : List T} {ys : List TV} {F : List Nat}, LaidK w l ys F → LaidK w (l ++ [t]) (ys ++ [y]) (F ++ G)
  | [], [], F, h => by
    have h : F = [] := h
    subst h
    exact ⟨G, [], by simp, ht, rfl⟩
  | u :: l, x :: ys, F, h => by
    obtain ⟨F1, F2, rfl, h1, h2⟩ := h
    exact ⟨F1, F2 ++ G, by simp, h1, h2.snoc ht⟩
  | [], _ :: _, _, h => h.elim
  | _ :: _, [], _, h => h.elim
theorem LaidK.kept {w w' : World} : ∀ {l : List T} {ys : List TV} {F : List Nat}, LaidK w l ys F → (∀ b ∈ F, w'.heap[b]? = w.heap[b]?) → LaidK w' l ys F
  | [], [], F, h, _ => h
  | u :: l, x :: ys, F, h, hk => by
    obtain ⟨F1, F2, rfl, h1, h2⟩ := h
    exact ⟨F1, F2, rfl, Laid.kept u x F1 h1 (fun b hb => hk b (by simp [hb])), h2.kept (fun b hb => hk b (by simp [hb]))⟩
  | [], _ :: _, _, h, _ => h.elim
  | _ :: _, [], _, h, _ => h.elim
theorem LaidK.len {w : World} : ∀ {l : List T} {ys : List TV} {F : List Nat}, LaidK w l ys F → ys.length = l.length
  | [], [], _, _ => rfl
  | u :: l, x :: ys, F, h => by obtain ⟨F1, F2, _, _, h2⟩ := h; simp [h2.len]
  | [], _ :: _, _, h => h.elim
  | _ :: _, [], _, h => h.elim
theorem LaidK.laid {w : World} {b : Nat} : ∀ {l : List T} {ys : List TV} {F : List Nat} (i : Nat), LaidK w l ys F → (∀ j u, (rowCells ys)[j]? = some u → w.cell? ⟨b, i * 6 + j, none⟩ = some u) → LaidL w l b i F
  | [], [], F, _, h, _ => h
  | t :: l, y :: ys, F, i, h, hc => by
    obtain ⟨F1, F2, rfl, h1, h2⟩ := h
    have e : rowCells (y :: ys) = y.cells.toList ++ rowCells ys := by simp [rowCells]
    have hat : At w b (i * 6) y := by
      constructor
      · exact hc 0 _ (by rw [e]; rfl)
      · exact hc 1 _ (by rw [e]; rfl)
      · exact hc 2 _ (by rw [e]; rfl)
      · exact hc 3 _ (by rw [e]; rfl)
      · exact hc 4 _ (by rw [e]; rfl)
      · exact hc 5 _ (by rw [e]; rfl)
    refine ⟨F1, F2, rfl, ⟨y, hat, h1⟩, h2.laid (i + 1) (fun j u hu => ?_)⟩
    have := hc (6 + j) u (by rw [e, List.getElem?_append_right (by simp [TV.cells])]; simpa [TV.cells] using hu)
    rwa [show i * 6 + (6 + j) = (i + 1) * 6 + j from by omega] at this
  | [], _ :: _, _, _, h, _ => h.elim
  | _ :: _, [], _, _, h, _ => h.elim

/-- a row of terms that grows: its value, what it holds, and what it lies apart from -/
structure LGrows (w0 : World) (base : Nat) (l : List T) (ys : List TV) (k : Nat) (v : Value) (wr : World) (FK : List Nat) : Prop where
  below : Below base w0 wr
  hbase : base ≤ wr.heap.size
  row : wr.ownsRow base 29 6 v k (rowCells ys)
  kids : LaidK wr (l.take k) ys FK
  fresh : Fresh base wr.heap.size FK
  apart : ∀ g, v.ownBlock = some g → g ∉ FK
theorem LGrows.kept {w0 wr w2 : World} {base k : Nat} {l : List T} {ys : List TV} {v : Value} {FK : List Nat} (h : LGrows w0 base l ys k v wr FK) (hb : Below wr.heap.size wr w2) : LGrows w0 base l ys k v w2 FK := by
  obtain ⟨h1, h2, h3, h4, h5, h6⟩ := h
  exact ⟨h1.trans (hb.mono h2), Nat.le_trans h2 hb.size, h3.kept (grown_of_below hb none) (by cases h : v.ownBlock <;> simp), h4.kept (fun b hb' => hb.block b (h5.hi b hb')), h5.mono (Nat.le_refl _) hb.size, h6⟩
/-- one more -/
theorem LGrows.step {w0 wr wb w3 : World} {base k : Nat} {l : List T} {ys : List TV} {v v' : Value} {FK G : List Nat} {u : T} {y : TV} (h : LGrows w0 base l ys k v wr FK) (hu : l[k]? = some u)
    (hb : Below wr.heap.size wr wb) (hy : Laid wb u y G) (hG : Fresh wr.heap.size wb.heap.size G) (hg : wb.grownBy w3 v.ownBlock)
    (hown : w3.ownsRow base 29 6 v' (k + 1) (rowCells ys ++ y.cells.toList))
    (hloc : v'.ownBlock = v.ownBlock ∨ v'.ownBlock = some wb.heap.size) : LGrows w0 base l (ys ++ [y]) (k + 1) v' w3 (FK ++ G) := by
  have hv := h.row.lt
  obtain ⟨h1, h2, h3, h4, h5, h6⟩ := h.kept hb
  have hold := h.fresh
  have hap : ∀ c ∈ FK ++ G, w3.heap[c]? = wb.heap[c]? := by
    intro c hc
    refine hg.block c ?_ ?_
    · rcases List.mem_append.1 hc with hc | hc
      · exact h5.hi c hc
      · exact hG.hi c hc
    · intro e
      rcases List.mem_append.1 hc with hc | hc
      · exact h6 c e.symm hc
      · have := (hv c e.symm).2
        have := hG.lo c hc
        omega
  refine ⟨h1.grown hg h2 (fun g e => (hv g e).1), Nat.le_trans h2 hg.size, ?_, ?_, ?_, ?_⟩
  · rw [rowCells_snoc]; exact hown
  · rw [List.take_add_one, hu]
    exact (h4.kept (fun b hb' => hap b (by simp [hb']))).snoc (Laid.kept u y G hy (fun b hb' => hap b (by simp [hb'])))
  · exact (hold.app hG h.hbase hb.size).mono (Nat.le_refl _) hg.size
  · intro g e hm
    rcases hloc with hl | hl
    · rw [hl] at e
      rcases List.mem_append.1 hm with hm | hm
      · exact h6 g e hm
      · have := (hv g e).2
        have := hG.lo g hm
        omega
    · rw [hl] at e
      cases e
      rcases List.mem_append.1 hm with hm | hm
      · have := h5.hi _ hm; omega
      · have := hG.hi _ hm; omega
theorem LGrows.start {w0 wm : World} {l : List T} {v : Value} (hb : Below w0.heap.size w0 wm) (hr : wm.ownsRow w0.heap.size 29 6 v 0 []) : LGrows w0 w0.heap.size l [] 0 v wm [] :=
  ⟨hb, hb.size, hr, rfl, Fresh.nil _ _, fun g _ h => by cases h⟩
theorem markI_of_row {w : World} {base ty n cap g : Nat} {xs : List Int} {m1 m2 : Int} (h : w.ownsRow base ty 1 (.slice (some ⟨g, 0, none⟩) (n + 2) cap) (n + 2) ((xs ++ [m1, m2]).map (Value.int .i64))) (hl : xs.length = n) : MarkI w ty (some ⟨g, 0, none⟩) n cap xs m1 m2 g := by
  have h' := h
  obtain ⟨_, ⟨e, _⟩ | ⟨g', cap', cur, e, hg, hcur, h4, h5, h6, h7⟩⟩ := h
  · cases e
  cases e
  refine ⟨hl, rfl, h4, h5, ⟨cur, hcur, by omega⟩, fun i v hv => ?_⟩
  have hlt := (List.getElem?_eq_some_iff.1 hv).1
  simp only [List.length_append, List.length_cons, List.length_nil] at hlt
  rw [h'.cellAt i (by omega), List.getElem?_map, hv]
  rfl
/-- in the end: the kids, and two marks behind them -/
theorem LGrows.ends {w0 wr w5 : World} {base : Nat} {l : List T} {ys : List TV} {k cap g : Nat} {v : Value} {FK : List Nat} (h : LGrows w0 base l ys k v wr FK) (hk : k = l.length) {wb : World} (hb : Below wr.heap.size wr wb) (hg : wb.grownBy w5 v.ownBlock)
    (hown : w5.ownsRow base 29 6 (.slice (some ⟨g, 0, none⟩) (k + 2) cap) (k + 2) (rowCells ys ++ ((markTV (-75)).cells.toList ++ (markTV (-76)).cells.toList))) (hat : v.ownBlock = some g ∨ wb.heap.size ≤ g) :
    MarkK w5 (some ⟨g, 0, none⟩) k cap g ∧ LaidL w5 l g 0 FK ∧ Fresh base w5.heap.size (g :: FK) ∧ Below base w0 w5 := by
  have hap := h.apart
  have hlt := h.row.lt
  obtain ⟨h1, h2, h3, h4, h5, h6⟩ := h.kept hb
  have hold := h.fresh
  subst hk
  rw [List.take_length] at h4
  have hlen := h4.len
  have keep : ∀ c ∈ FK, w5.heap[c]? = wb.heap[c]? := fun c hc => hg.block c (h5.hi c hc) (fun e => hap c e.symm hc)
  have h4' : LaidK w5 l ys FK := h4.kept keep
  have hown' := hown
  obtain ⟨hl, ⟨e, _⟩ | ⟨g', cap', cur, e, hg0, hcur, hnc, hc, hs, ht⟩⟩ := hown
  · cases e
  cases e
  have hcell : ∀ j u, (rowCells ys ++ ((markTV (-75)).cells.toList ++ (markTV (-76)).cells.toList))[j]? = some u → w5.cell? ⟨g, j, none⟩ = some u := fun j u hu => by
    have hlt := (List.getElem?_eq_some_iff.1 hu).1
    rw [hl] at hlt
    rw [hown'.cellAt j hlt]
    exact hu
  have hm : ∀ j u, ((markTV (-75)).cells.toList ++ (markTV (-76)).cells.toList)[j]? = some u → w5.cell? ⟨g, l.length * 6 + j, none⟩ = some u := fun j u hu =>
    hcell _ u (by rw [List.getElem?_append_right (by rw [rowCells_len]; omega), rowCells_len, hlen]; rwa [Nat.add_sub_cancel_left])
  refine ⟨⟨rfl, hnc, hc, ⟨cur, hcur, by omega⟩, ?_, ?_⟩, ?_, ?_, ?_⟩
  · exact ⟨hm 0 _ rfl, hm 1 _ rfl, hm 2 _ rfl, hm 3 _ rfl, hm 4 _ rfl, hm 5 _ rfl⟩
  · rw [show (l.length + 1) * 6 = l.length * 6 + 6 by omega]
    exact ⟨hm 6 _ rfl, hm 7 _ rfl, hm 8 _ rfl, hm 9 _ rfl, hm 10 _ rfl, hm 11 _ rfl⟩
  · exact h4'.laid 0 (fun j u hu => by
      rw [Nat.zero_mul, Nat.zero_add]
      exact hcell j u (by rw [List.getElem?_append_left (List.getElem?_eq_some_iff.1 hu).1]; exact hu))
  · have hgF : g ∉ FK := fun hm' => by
      rcases hat with h' | h'
      · exact hap g h' hm'
      · have := h5.hi g hm'; omega
    refine ⟨List.nodup_cons.2 ⟨hgF, h5.nodup⟩, fun b hb' => ?_, fun b hb' => ?_⟩
    · rcases List.mem_cons.1 hb' with rfl | hb'
      · exact hg0
      · exact h5.lo b hb'
    · rcases List.mem_cons.1 hb' with rfl | hb'
      · exact (Array.getElem?_eq_some_iff.1 hcur).1
      · have := h5.hi b hb'; have := hg.size; omega
  · exact h1.grown hg h2 (fun q e => (hlt q e).1)
theorem news2 {w : World} {nb : Nat} {a b : Value} (h0 : w.cell? ⟨nb, 0, none⟩ = some a) (h1 : w.cell? ⟨nb, 1, none⟩ = some b) : ∀ j u, ([a, b] : List Value)[j]? = some u → w.cell? ((⟨nb, 0, none⟩ : Addr).add j) = some u := by
  intro j u hu
  match j, hu with
  | 0, hu => simp at hu; subst hu; simpa [Addr.add] using h0
  | 1, hu => simp at hu; subst hu; simpa [Addr.add] using h1
  | j + 2, hu => simp at hu
/-- one of the two lists laid -/
structure LayNum (w wq : World) (x : TV) (base ty : Nat) (v : Value) (n : Nat) (zs : List Int) : Prop where
  below : Below w.heap.size w wq
  size : base ≤ wq.heap.size
  box : Box wq w.heap.size x
  res : Box wq (w.heap.size + 1) zeroTV
  row : wq.ownsRow base ty 1 v n (zs.map (Value.int .i64))
  adr : ∃ g cap, v = .slice (some ⟨g, 0, none⟩) n cap
end Go.Proofs.YtnnhbpgpkpbinaaGreat
