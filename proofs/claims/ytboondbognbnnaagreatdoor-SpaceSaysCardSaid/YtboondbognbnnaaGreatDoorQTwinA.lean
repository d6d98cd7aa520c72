/- Package slices: Clone at numbers. Package term: twin: what holds at a round's head, and behind it. Package term: twin. -/
import Derived.Test.YtboondbognbnnaaGreatDoorQPureA
import Derived.Test.YtboondbognbnnaaGreatDoorQTermA
import Derived.Outline
import Derived.WalkSmall
import Derived.Handy
set_option linter.unusedVariables false
set_option linter.unusedSimpArgs false
namespace Go.Proofs.YtboondbognbnnaaGreatDoor
open Go.RowKit

def ClonePost (ty : Nat) (len : Nat) (xs : List Int) (w : World) (e : Ending) (w' : World) : Prop :=
  ∃ A c F, e = .returned (.slice A len c) ∧ OwnI w' ty A len c xs F ∧ Fresh w.heap.size w'.heap.size F ∧ Below w.heap.size w w' ∧ c ≤ maxLen ∧ len ≤ c
theorem ints_one (k : IntKind) (xs : List Int) : ∀ u ∈ xs.map (Value.int k), u.oneCell' = true := by
  intro u hu
  obtain ⟨n, _, rfl⟩ := List.mem_map.1 hu
  rfl
theorem Ints.news {w : World} {B len : Nat} {b o : Nat} {xs : List Int} (h : Ints w B (some ⟨b, o, none⟩) len xs) : ∀ j u, (xs.map (Value.int .i64))[j]? = some u → w.cell? ((⟨b, o, none⟩ : Addr).add j) = some u := by
  intro j u hu
  rw [List.getElem?_map] at hu
  cases hx : xs[j]? with
  | none => rw [hx] at hu; cases hu
  | some v =>
    rw [hx] at hu
    simp at hu
    subst hu
    have hlt := (List.getElem?_eq_some_iff.1 hx).1
    obtain ⟨b', o', e, hb, hc⟩ := h.2 (by have := h.1; omega)
    cases e
    have := hc j v hx
    by_cases h0 : j = 0
    · subst h0; simpa [Addr.add] using this
    · simpa [Addr.add, h0] using this
/-- a row of numbers of the call's own, as a slice of its own -/
theorem ownI_of_row {w : World} {base ty : Nat} {b n cap : Nat} {xs : List Int} (h : w.ownsRow base ty 1 (.slice (some ⟨b, 0, none⟩) n cap) n (xs.map (Value.int .i64))) : OwnI w ty (some ⟨b, 0, none⟩) n cap xs [b] ∧ base ≤ b ∧ b < w.heap.size ∧ cap ≤ maxLen ∧ n ≤ cap := by
  have h' := h
  obtain ⟨hl, ⟨h0, _⟩ | ⟨g, cap', cur, e, hg, hcur, h4, h5, h6, h7⟩⟩ := h
  · cases h0
  · cases e
    refine ⟨⟨by simpa using hl, .inr ⟨b, cur, rfl, rfl, hcur, h4, h5, by omega⟩, fun b' e i v hv => ?_⟩, hg, (Array.getElem?_eq_some_iff.1 hcur).1, h5, h4⟩
    cases e
    have hlt := (List.getElem?_eq_some_iff.1 hv).1
    rw [h'.cellAt i (by simp at hl; omega), List.getElem?_map, hv]
    rfl

theorem info_int0 : (Tryz.prog.info? 3).map (fun i => (i.zero, i.size, i.bytes)) = some (some (.int .i64 0), 1, 8) := by kernel_rfl
set_option maxRecDepth 100000 in
set_option maxHeartbeats 1000000 in
theorem clone_int (A : Option Addr) (len cap B : Nat) (xs : List Int) (w : World) (h : Ints w B A len xs) (hB : B ≤ w.heap.size) (hl : len ≤ 17592186044416) :
    Calls Tryz.prog 61 #[.slice A len cap] w (ClonePost 3 len xs w) := by
  have hnil := fun (w : World) (a : Option Addr) (n c : Nat) => Lib.run_eql_slice_nil (P := Tryz.prog) w 23 3 a n c 0 0 Tryz.underlying23
  obtain ⟨i0, hi, hz0, hz1, hz2⟩ := info_parts info_int0
  cases A with
  | none =>
    obtain rfl : len = 0 := by
      by_cases h0 : len = 0
      · exact h0
      · obtain ⟨b, o, e, _⟩ := h.2 (by omega); cases e
    obtain rfl : xs = [] := List.eq_nil_of_length_eq_zero h.1
    clear h
    go_enter Tryz.func61, Tryz.ntmps61
    go_wp2_with fail
    go_ret
    exact ⟨none, 0, [], rfl, ⟨rfl, .inl ⟨rfl, rfl, rfl⟩, fun b e => by cases e⟩, Fresh.nil _ _, Below.refl _ _, Nat.zero_le _, Nat.zero_le _⟩
  | some a =>
    have hnews : ∀ j u, (xs.map (Value.int .i64))[j]? = some u → w.cell? (a.add j) = some u := by
      by_cases h0 : len = 0
      · obtain rfl : xs = [] := List.eq_nil_of_length_eq_zero (h.1.trans h0)
        intro j u hu; simp at hu
      · obtain ⟨b, o, e, _⟩ := h.2 (by omega)
        cases e
        exact h.news
    have HN := Lib.hid hnews
    have HL := Lib.hid h.1
    clear hnews h
    go_enter Tryz.func61, Tryz.ntmps61
    have hown : Hid ((w.alloc (.cells #[] 3)).ownsRow w.heap.size 3 1 (.slice (some ⟨w.heap.size, 0, none⟩) 0 0) 0 []) :=
      ⟨rfl, .inr ⟨w.heap.size, 0, #[], rfl, Nat.le_refl _, by show (w.heap.push _)[w.heap.size]? = _; simp, Nat.le_refl _, Nat.zero_le _, rfl, rfl⟩⟩
    go_wp2_with (at_builtin; refine wpList_append_own_at _ rfl _ _ 23 rfl w.heap.size 3 i0 (.int .i64 0) 1 8 Tryz.underlying23 hi hz0 hz1 hz2 rfl (by decide) _ _ _ rfl hown.out a len cap (xs.map (Value.int .i64)) rfl (by rw [List.length_map, HL.out]; omega) (fun j u hu => (World.cell?_of_block (a := a.add j) (Below.heap_alloc w _ _ (by have := HN.out j u hu; have := World.block_lt_of_cell? w _ this; exact this))).trans (HN.out j u hu)) (ints_one _ _) (by unfold maxLen; omega) (by omega) (by simp) ?_)
    intro v w1 hown1 hgrow hnl hloc
    have hB1 : Below w.heap.size w w1 := ((Below.refl _ _).alloc (Nat.le_refl _) _).grown hgrow (by simp) (fun k hk => by cases hk; exact Nat.le_refl _)
    have hown2 : w1.ownsRow w.heap.size 3 1 v len (xs.map (Value.int .i64)) := by simpa using hown1
    clear hown1
    obtain ⟨g, c, rfl⟩ : ∃ g c, v = .slice (some ⟨g, 0, none⟩) len c := by
      obtain ⟨_, ⟨h0, _⟩ | ⟨g, cap', cur, e, _⟩⟩ := hown2
      · exact (hnl h0).elim
      · exact ⟨g, cap', e⟩
    obtain ⟨h1, h2, h3, h4, h5⟩ := ownI_of_row hown2
    clear hown2 hgrow hnl hloc hown
    go_wp2_with fail
    go_ret
    exact ⟨_, _, _, rfl, h1, Fresh.one h2 h3, hB1, h4, h5⟩

theorem info_int640 : (Tryz.prog.info? 2).map (fun i => (i.zero, i.size, i.bytes)) = some (some (.int .i64 0), 1, 8) := by kernel_rfl
set_option maxRecDepth 100000 in
set_option maxHeartbeats 1000000 in
theorem clone_int64 (A : Option Addr) (len cap B : Nat) (xs : List Int) (w : World) (h : Ints w B A len xs) (hB : B ≤ w.heap.size) (hl : len ≤ 17592186044416) :
    Calls Tryz.prog 62 #[.slice A len cap] w (ClonePost 2 len xs w) := by
  have hnil := fun (w : World) (a : Option Addr) (n c : Nat) => Lib.run_eql_slice_nil (P := Tryz.prog) w 24 2 a n c 0 0 Tryz.underlying24
  obtain ⟨i0, hi, hz0, hz1, hz2⟩ := info_parts info_int640
  cases A with
  | none =>
    obtain rfl : len = 0 := by
      by_cases h0 : len = 0
      · exact h0
      · obtain ⟨b, o, e, _⟩ := h.2 (by omega); cases e
    obtain rfl : xs = [] := List.eq_nil_of_length_eq_zero h.1
    clear h
    go_enter Tryz.func62, Tryz.ntmps62
    go_wp2_with fail
    go_ret
    exact ⟨none, 0, [], rfl, ⟨rfl, .inl ⟨rfl, rfl, rfl⟩, fun b e => by cases e⟩, Fresh.nil _ _, Below.refl _ _, Nat.zero_le _, Nat.zero_le _⟩
  | some a =>
    have hnews : ∀ j u, (xs.map (Value.int .i64))[j]? = some u → w.cell? (a.add j) = some u := by
      by_cases h0 : len = 0
      · obtain rfl : xs = [] := List.eq_nil_of_length_eq_zero (h.1.trans h0)
        intro j u hu; simp at hu
      · obtain ⟨b, o, e, _⟩ := h.2 (by omega)
        cases e
        exact h.news
    have HN := Lib.hid hnews
    have HL := Lib.hid h.1
    clear hnews h
    go_enter Tryz.func62, Tryz.ntmps62
    have hown : Hid ((w.alloc (.cells #[] 2)).ownsRow w.heap.size 2 1 (.slice (some ⟨w.heap.size, 0, none⟩) 0 0) 0 []) :=
      ⟨rfl, .inr ⟨w.heap.size, 0, #[], rfl, Nat.le_refl _, by show (w.heap.push _)[w.heap.size]? = _; simp, Nat.le_refl _, Nat.zero_le _, rfl, rfl⟩⟩
    go_wp2_with (at_builtin; refine wpList_append_own_at _ rfl _ _ 24 rfl w.heap.size 2 i0 (.int .i64 0) 1 8 Tryz.underlying24 hi hz0 hz1 hz2 rfl (by decide) _ _ _ rfl hown.out a len cap (xs.map (Value.int .i64)) rfl (by rw [List.length_map, HL.out]; omega) (fun j u hu => (World.cell?_of_block (a := a.add j) (Below.heap_alloc w _ _ (by have := HN.out j u hu; have := World.block_lt_of_cell? w _ this; exact this))).trans (HN.out j u hu)) (ints_one _ _) (by unfold maxLen; omega) (by omega) (by simp) ?_)
    intro v w1 hown1 hgrow hnl hloc
    have hB1 : Below w.heap.size w w1 := ((Below.refl _ _).alloc (Nat.le_refl _) _).grown hgrow (by simp) (fun k hk => by cases hk; exact Nat.le_refl _)
    have hown2 : w1.ownsRow w.heap.size 2 1 v len (xs.map (Value.int .i64)) := by simpa using hown1
    clear hown1
    obtain ⟨g, c, rfl⟩ : ∃ g c, v = .slice (some ⟨g, 0, none⟩) len c := by
      obtain ⟨_, ⟨h0, _⟩ | ⟨g, cap', cur, e, _⟩⟩ := hown2
      · exact (hnl h0).elim
      · exact ⟨g, cap', e⟩
    obtain ⟨h1, h2, h3, h4, h5⟩ := ownI_of_row hown2
    clear hown2 hgrow hnl hloc hown
    go_wp2_with fail
    go_ret
    exact ⟨_, _, _, rfl, h1, Fresh.one h2 h3, hB1, h4, h5⟩

end Go.Proofs.YtboondbognbnnaaGreatDoor

namespace Go.Proofs.YtboondbognbnnaaGreatDoor
open Go.RowKit

theorem grown_of_below {w w' : World} (h : Below w.heap.size w w') (row : Option Nat) : w.grownBy w' row := ⟨h.os, h.tape, h.output, h.size, fun k hk _ => h.block k hk⟩
/-- terms of their own, side by side -/
def OwnK (w : World) : List T → List TV → List Nat → Prop
  | [], [], F => F = []
  | t :: l, y :: ys, F => ∃ F1 F2, F = F1 ++ F2 ∧ Own w t y F1 ∧ OwnK w l ys F2
  | _, _, _ => False
theorem OwnK.snoc {w : World} {t : T} {y : TV} {G : List Nat} (ht : Own w t y G) : ∀ {l : List T} {ys : List TV} {F : List Nat}, OwnK w l ys F → OwnK w (l ++ [t]) (ys ++ [y]) (F ++ G)
  | [], [], F, h => by
    have h : F = [] := h
    subst h
    exact ⟨G, [], by simp, ht, rfl⟩
  | u :: l, x :: ys, F, h => by
    obtain ⟨F1, F2, rfl, h1, h2⟩ := h
    exact ⟨F1, F2 ++ G, by simp, h1, h2.snoc ht⟩
  | [], _ :: _, _, h => h.elim
  | _ :: _, [], _, h => h.elim
theorem OwnK.kept {w w' : World} : ∀ {l : List T} {ys : List TV} {F : List Nat}, OwnK w l ys F → (∀ b ∈ F, w'.heap[b]? = w.heap[b]?) → OwnK w' l ys F
  | [], [], F, h, _ => h
  | u :: l, x :: ys, F, h, hk => by
    obtain ⟨F1, F2, rfl, h1, h2⟩ := h
    exact ⟨F1, F2, rfl, Own.kept u x F1 h1 (fun b hb => hk b (by simp [hb])), h2.kept (fun b hb => hk b (by simp [hb]))⟩
  | [], _ :: _, _, h, _ => h.elim
  | _ :: _, [], _, h, _ => h.elim
theorem OwnK.len {w : World} : ∀ {l : List T} {ys : List TV} {F : List Nat}, OwnK w l ys F → ys.length = l.length
  | [], [], _, _ => rfl
  | u :: l, x :: ys, F, h => by obtain ⟨F1, F2, _, _, h2⟩ := h; simp [h2.len]
  | [], _ :: _, _, h => h.elim
  | _ :: _, [], _, h => h.elim
/-- the cells of a row of terms -/
def rowCells (ys : List TV) : List Value := ys.flatMap fun y => y.cells.toList
theorem rowCells_snoc (ys : List TV) (y : TV) : rowCells (ys ++ [y]) = rowCells ys ++ y.cells.toList := by simp [rowCells]
theorem rowCells_len (ys : List TV) : (rowCells ys).length = ys.length * 6 := by
  induction ys with
  | nil => rfl
  | cons y ys ih =>
    have : rowCells (y :: ys) = y.cells.toList ++ rowCells ys := by simp [rowCells]
    rw [this, List.length_append, ih]
    simp [TV.cells]; omega
theorem OwnK.laid {w : World} {b : Nat} : ∀ {l : List T} {ys : List TV} {F : List Nat} (i : Nat), OwnK w l ys F → (∀ j u, (rowCells ys)[j]? = some u → w.cell? ⟨b, i * 6 + j, none⟩ = some u) → OwnL w l (some ⟨b, 0, none⟩) i F
  | [], [], F, _, h, _ => h
  | t :: l, y :: ys, F, i, h, hc => by
    obtain ⟨F1, F2, rfl, h1, h2⟩ := h
    have e : rowCells (y :: ys) = y.cells.toList ++ rowCells ys := by simp [rowCells]
    have hat : At w b (i * 6) y := by
      constructor
      · exact hc 0 _ (by rw [e]; rfl)
      · exact hc 1 _ (by rw [e]; rfl)
      · exact hc 2 _ (by rw [e]; rfl)
      · exact hc 3 _ (by rw [e]; rfl)
      · exact hc 4 _ (by rw [e]; rfl)
      · exact hc 5 _ (by rw [e]; rfl)
    refine ⟨F1, F2, rfl, ⟨b, y, rfl, hat, h1⟩, h2.laid (i + 1) (fun j u hu => ?_)⟩
    have := hc (6 + j) u (by rw [e, List.getElem?_append_right (by simp [TV.cells])]; simpa [TV.cells] using hu)
    rwa [show i * 6 + (6 + j) = (i + 1) * 6 + j from by omega] at this
  | [], _ :: _, _, _, h, _ => h.elim
  | _ :: _, [], _, _, h, _ => h.elim

/-- a row of terms that grows: its value, what it holds, and what it lies apart from -/
structure Grows (w0 : World) (base : Nat) (l : List T) (ys : List TV) (k : Nat) (v : Value) (wr : World) (FK : List Nat) : Prop where
  below : Below base w0 wr
  hbase : base ≤ wr.heap.size
  row : wr.ownsRow base 29 6 v k (rowCells ys)
  kids : OwnK wr (l.take k) ys FK
  fresh : Fresh base wr.heap.size FK
  apart : ∀ g, v.ownBlock = some g → g ∉ FK
theorem Grows.start (w0 : World) (l : List T) : Grows w0 w0.heap.size l [] 0 (.slice none 0 0) w0 [] :=
  ⟨Below.refl _ _, Nat.le_refl _, World.ownsRow_nil _ _ _ _, rfl, Fresh.nil _ _, fun g h => by cases h⟩
theorem Grows.kept {w0 wr w2 : World} {base k : Nat} {l : List T} {ys : List TV} {v : Value} {FK : List Nat} (h : Grows w0 base l ys k v wr FK) (hb : Below wr.heap.size wr w2) : Grows w0 base l ys k v w2 FK := by
  obtain ⟨h1, h2, h3, h4, h5, h6⟩ := h
  exact ⟨h1.trans (hb.mono h2), Nat.le_trans h2 hb.size, h3.kept (grown_of_below hb none) (by cases h : v.ownBlock <;> simp), h4.kept (fun b hb' => hb.block b (h5.hi b hb')), h5.mono (Nat.le_refl _) hb.size, h6⟩
/-- one more -/
theorem Grows.step {w0 wr wb w3 : World} {base k : Nat} {l : List T} {ys : List TV} {v v' : Value} {FK G : List Nat} {u : T} {y : TV} (h : Grows w0 base l ys k v wr FK) (hu : l[k]? = some u)
    (hb : Below wr.heap.size wr wb) (hy : Own wb u y G) (hG : Fresh wr.heap.size wb.heap.size G) (hg : wb.grownBy w3 v.ownBlock)
    (hown : w3.ownsRow base 29 6 v' (k + 1) (rowCells ys ++ y.cells.toList))
    (hloc : v'.ownBlock = v.ownBlock ∨ v'.ownBlock = some wb.heap.size) : Grows w0 base l (ys ++ [y]) (k + 1) v' w3 (FK ++ G) := by
  have hv := h.row.lt
  obtain ⟨h1, h2, h3, h4, h5, h6⟩ := h.kept hb
  have hold := h.fresh
  have hap : ∀ c ∈ FK ++ G, w3.heap[c]? = wb.heap[c]? := by
    intro c hc
    refine hg.block c ?_ ?_
    · rcases List.mem_append.1 hc with hc | hc
      · exact h5.hi c hc
      · exact hG.hi c hc
    · intro e
      rcases List.mem_append.1 hc with hc | hc
      · exact h6 c e.symm hc
      · have := (hv c e.symm).2
        have := hG.lo c hc
        omega
  refine ⟨h1.grown hg h2 (fun g e => (hv g e).1), Nat.le_trans h2 hg.size, ?_, ?_, ?_, ?_⟩
  · rw [rowCells_snoc]; exact hown
  · rw [List.take_add_one, hu]
    exact (h4.kept (fun b hb' => hap b (by simp [hb']))).snoc (Own.kept u y G hy (fun b hb' => hap b (by simp [hb'])))
  · exact (hold.app hG h.hbase hb.size).mono (Nat.le_refl _) hg.size
  · intro g e hm
    rcases hloc with hl | hl
    · rw [hl] at e
      rcases List.mem_append.1 hm with hm | hm
      · exact h6 g e hm
      · have := (hv g e).2
        have := hG.lo g hm
        omega
    · rw [hl] at e
      cases e
      rcases List.mem_append.1 hm with hm | hm
      · have := h5.hi _ hm; omega
      · have := hG.hi _ hm; omega
theorem row_new (w : World) (cs : Array Value) (ty : TypeId) : ∀ j u, cs.toList[j]? = some u → (w.alloc (.cells cs ty)).cell? ((⟨w.heap.size, 0, none⟩ : Addr).add j) = some u := by
  intro j u hu
  have : cs[j]? = some u := by simpa using hu
  by_cases h0 : j = 0
  · subst h0; simp [Addr.add, this]
  · simp [Addr.add, h0, this]
theorem cells_one (y : TV) : ∀ u ∈ y.cells.toList, u.oneCell' = true := by
  intro u hu
  simp only [TV.cells, List.mem_cons, List.not_mem_nil, or_false] at hu
  rcases hu with rfl | rfl | rfl | rfl | rfl | rfl <;> rfl
/-- when all are laid: the kids' list -/
theorem Grows.ends {w0 wr : World} {base : Nat} {l : List T} {ys : List TV} {k : Nat} {v : Value} {FK : List Nat} (h : Grows w0 base l ys k v wr FK) (hk : k = l.length) :
    ∃ A c F3, v = .slice A k c ∧ OwnB wr 29 6 A k k F3 ∧ OwnL wr l A 0 FK ∧ Fresh base wr.heap.size (F3 ++ FK) ∧ k ≤ c ∧ c ≤ maxLen ∧ (A = none → c = 0 ∧ k = 0) ∧ (∀ g, A = some g → ∃ b, A = some ⟨b, 0, none⟩) := by
  obtain ⟨h1, h2, h3, h4, h5, h6⟩ := h
  subst hk
  rw [List.take_length] at h4
  have h3' := h3
  obtain ⟨hl, ⟨rfl, h0⟩ | ⟨g, cap, cur, rfl, hg, hcur, hn, hc, hs, ht⟩⟩ := h3
  · have hl0 : l = [] := List.eq_nil_of_length_eq_zero h0
    subst hl0
    have hys : ys = [] := by have := h4.len; exact List.eq_nil_of_length_eq_zero this
    subst hys
    have hF : FK = [] := h4
    subst hF
    exact ⟨none, 0, [], rfl, .inl ⟨rfl, rfl, rfl⟩, rfl, Fresh.nil _ _, Nat.le_refl _, Nat.zero_le _, fun _ => ⟨rfl, rfl⟩, fun g e => by cases e⟩
  · refine ⟨some ⟨g, 0, none⟩, cap, [g], rfl, .inr ⟨g, cur, rfl, rfl, hcur, Nat.le_refl _, Nat.le_trans hn hc, ?_⟩, ?_, ?_, hn, hc, (fun e => by cases e), (fun _ _ => ⟨g, rfl⟩)⟩
    · rw [hs]; exact Nat.mul_le_mul_right _ hn
    · refine h4.laid 0 (fun j u hu => ?_)
      rw [Nat.zero_mul, Nat.zero_add, h3'.cellAt j (by have := (List.getElem?_eq_some_iff.1 hu).1; omega)]
      exact hu
    · refine ⟨?_, ?_, ?_⟩
      · rw [List.nodup_append]
        refine ⟨by simp, h5.nodup, ?_⟩
        intro a ha b hb e
        have hbg : b = g := by rw [← e]; simpa using ha
        rw [hbg] at hb
        exact h6 g rfl hb
      · intro b hb
        rcases List.mem_append.1 hb with hb | hb
        · simp at hb; subst hb; exact hg
        · exact h5.lo b hb
      · intro b hb
        rcases List.mem_append.1 hb with hb | hb
        · simp at hb; subst hb; exact (Array.getElem?_eq_some_iff.1 hcur).1
        · exact h5.hi b hb

/-- a variable that holds a term: its cells, not frozen -/
structure Box (w : World) (b : Nat) (x : TV) : Prop where
  c0 : w.cell? ⟨b, 0, none⟩ = some (.int .i64 x.kind)
  c1 : w.cell? ⟨b, 1, none⟩ = some (.string x.text)
  c2 : w.cell? ⟨b, 2, none⟩ = some (.int .i64 x.n)
  c3 : w.cell? ⟨b, 3, none⟩ = some (.slice x.sa x.sl x.sc)
  c4 : w.cell? ⟨b, 4, none⟩ = some (.slice x.aa x.al x.ac)
  c5 : w.cell? ⟨b, 5, none⟩ = some (.slice x.ka x.kl x.kc)
  f : ∀ o, w.frozen? ⟨b, o, none⟩ = false
theorem Box.new (w : World) (x : TV) (ty : TypeId) : Box (w.alloc (.cells x.cells ty)) w.heap.size x := by
  constructor <;> simp [TV.cells]
theorem Box.below {w w' : World} {b B : Nat} {x : TV} (h : Box w b x) (hb : Below B w w') (hlt : b < B) : Box w' b x := by
  have hc := fun o => hb.cell (p := ⟨b, o, none⟩) hlt
  exact ⟨(hc _).trans h.c0, (hc _).trans h.c1, (hc _).trans h.c2, (hc _).trans h.c3, (hc _).trans h.c4, (hc _).trans h.c5, fun o => (hb.frozen (p := ⟨b, o, none⟩) hlt).trans (h.f o)⟩
theorem Box.alloc {w : World} {b : Nat} {x : TV} (h : Box w b x) (o : Obj) : Box (w.alloc o) b x :=
  h.below ((Below.refl (b + 1) w).alloc (World.block_lt_of_cell? w _ h.c0) o) (Nat.lt_succ_self b)
theorem Box.lt {w : World} {b : Nat} {x : TV} (h : Box w b x) : b < w.heap.size := World.block_lt_of_cell? w _ h.c0
theorem Box.other {w : World} {b b' o : Nat} {x : TV} (h : Box w b x) (hne : b ≠ b') (v : Value) : Box (w.setCell ⟨b', o, none⟩ v) b x := by
  have hk := Below.heap_setCell w ⟨b', o, none⟩ v b hne
  exact ⟨(cell_of_heap hk).trans h.c0, (cell_of_heap hk).trans h.c1, (cell_of_heap hk).trans h.c2, (cell_of_heap hk).trans h.c3, (cell_of_heap hk).trans h.c4, (cell_of_heap hk).trans h.c5, fun o => (World.frozen?_of_block (a := ⟨b, o, none⟩) hk).trans (h.f o)⟩
theorem Box.set3 {w : World} {b : Nat} {x : TV} (h : Box w b x) (A : Option Addr) (n c : Nat) : Box (w.setCell ⟨b, 3, none⟩ (.slice A n c)) b { x with sa := A, sl := n, sc := c } := by
  obtain ⟨h0, h1, h2, h3, h4, h5, hf⟩ := h
  constructor <;> simp [h0, h1, h2, h3, h4, h5, hf, go_sem]
theorem Box.set4 {w : World} {b : Nat} {x : TV} (h : Box w b x) (A : Option Addr) (n c : Nat) : Box (w.setCell ⟨b, 4, none⟩ (.slice A n c)) b { x with aa := A, al := n, ac := c } := by
  obtain ⟨h0, h1, h2, h3, h4, h5, hf⟩ := h
  constructor <;> simp [h0, h1, h2, h3, h4, h5, hf, go_sem]
theorem Box.set5 {w : World} {b : Nat} {x : TV} (h : Box w b x) (A : Option Addr) (n c : Nat) : Box (w.setCell ⟨b, 5, none⟩ (.slice A n c)) b { x with ka := A, kl := n, kc := c } := by
  obtain ⟨h0, h1, h2, h3, h4, h5, hf⟩ := h
  constructor <;> simp [h0, h1, h2, h3, h4, h5, hf, go_sem]
def zeroTV : TV := ⟨0, ⟨#[]⟩, 0, none, 0, 0, none, 0, 0, none, 0, 0⟩
end Go.Proofs.YtboondbognbnnaaGreatDoor

namespace Go.Proofs.YtboondbognbnnaaGreatDoor
open Go.RowKit

theorem clip_some (g n cap : Nat) (w : World) (h : n ≤ cap) (hc : cap ≤ maxLen) :
    Calls Tryz.prog 86 #[.slice (some ⟨g, 0, none⟩) n cap] w fun e w' => e = .returned (.slice (some ⟨g, 0, none⟩) n n) ∧ w = w' := by
  unfold maxLen at hc
  go_enter Tryz.func86, Tryz.ntmps86
  go_wp2_with fail
  go_ret
  exact ⟨rfl, rfl⟩
theorem clip_none (w : World) :
    Calls Tryz.prog 86 #[.slice none 0 0] w fun e w' => e = .returned (.slice none 0 0) ∧ w = w' := by
  go_enter Tryz.func86, Tryz.ntmps86
  go_wp2_with fail
  go_ret
  exact ⟨rfl, rfl⟩

/-- what twin answers -/
def TwinPost (t : T) (w : World) (e : Ending) (w' : World) : Prop := ∃ y F, e = .returned y.val ∧ Own w' t y F ∧ Fresh w.heap.size w'.heap.size F ∧ Below w.heap.size w w'
def TwinAll (t : T) : Prop := t.nodes ≤ 4096 → ∀ (x : TV) (B : Nat) (w : World), Rep w B t x → B ≤ w.heap.size → Calls Tryz.prog 55 #[x.val] w (TwinPost t w)
theorem info_term0 : (Tryz.prog.info? 29).map (fun i => (i.zero, i.size, i.bytes)) = some (some (.agg #[.int .i64 0, .string ⟨#[]⟩, .int .i64 0, .slice none 0 0, .slice none 0 0, .slice none 0 0]), 6, 104) := by kernel_rfl
theorem T.length_le_nodes (l : List T) : l.length ≤ T.nodesL l := by
  induction l with
  | nil => exact Nat.zero_le _
  | cons t l ih => have := T.nodes_pos t; simp only [List.length_cons, T.nodesL]; omega

/-- the parts are the term -/
theorem twin_own {k : Int} {s : ByteArray} {n : Int} {sh a : List Int} {l : List T} {x : TV} {B : Nat} {w wr : World} {A1 A2 A : Option Addr} {c1 c2 : Nat} {F1 F2 F3 FK : List Nat} (hr : Rep w B (.mk k s n sh a l) x)
    (o1 : OwnI wr 3 A1 x.sl c1 sh F1) (o2 : OwnI wr 2 A2 x.al c2 a F2) (o3 : OwnB wr 29 6 A x.kl x.kl F3) (o4 : OwnL wr l A 0 FK) (h1 : x.sl ≤ c1) (h2 : c1 ≤ maxLen) (h3 : x.al ≤ c2) (h4 : c2 ≤ maxLen) :
    Own wr (.mk k s n sh a l) ⟨x.kind, x.text, x.n, A1, x.sl, c1, A2, x.al, c2, A, x.kl, x.kl⟩ (F1 ++ F2 ++ F3 ++ FK) := by
  have hw := hr.wee
  have hk := hr.kl
  simp only [Own]
  refine ⟨⟨hw.k0, hw.k1, hw.n0, hw.n1, hw.ts, h1, h3, Nat.le_refl _, hw.s1, hw.a1, hw.l1, h2, h4, Nat.le_trans hw.l0 hw.l2⟩, hr.kind, hr.text, hr.n, hk, F1, F2, F3, FK, rfl, o1, o2, o3, o4⟩

set_option maxRecDepth 100000 in
set_option maxHeartbeats 4000000 in
theorem twin_all (t : T) : TwinAll t := by
  refine T.ind (P := TwinAll) ?_ t
  intro k s n sh a l ih hn x B w hr hB
  have hl4 : l.length ≤ 4096 := by have := T.length_le_nodes l; simp only [T.nodes] at hn; omega
  have hkl : x.kl = l.length := hr.kl
  have hk4 : x.kl ≤ 4096 := by omega
  have hwee := hr.wee
  have hS := hr.shape
  have hA := hr.atoms
  simp only [T.shape_mk, T.atoms_mk] at hS hA
  have HR := Lib.hid hr
  have HL := Lib.hid hkl
  have HIH := Lib.hid ih
  have hb0 : Below w.heap.size w ((w.alloc (.cells x.cells 29)).alloc (.cells #[.int .i64 0, .string ⟨#[]⟩, .int .i64 0, .slice none 0 0, .slice none 0 0, .slice none 0 0] 29)) := by go_grown
  have hbox0 := (Box.new w x 29).alloc (.cells #[.int .i64 0, .string ⟨#[]⟩, .int .i64 0, .slice none 0 0, .slice none 0 0, .slice none 0 0] 29)
  have hres0 := Box.new (w.alloc (.cells x.cells 29)) zeroTV 29
  have H1 := Lib.hid (clone_int x.sa x.sl x.sc B sh _ (hS.keep (Keeps.of_below hb0 hB)) (by simp; omega) hwee.s1)
  simp only [TV.cells, zeroTV, World.size_alloc] at hb0 H1 hbox0 hres0
  have HB0 := Lib.hid hb0
  have HA := Lib.hid hA
  have hal := hwee.a1
  have HBOX0 := Lib.hid hbox0
  have HRES0 := Lib.hid hres0
  clear hb0 hS hA hkl hr ih hbox0 hres0
  simp only [TV.val, TV.cells]
  go_enter Tryz.func55, Tryz.ntmps55
  go_wp2_with fail
  refine H1.out.mono ?_
  rintro e w1 ⟨A1, c1, F1, rfl, hO1, hF1, hb1, hc1, hl1⟩
  have HB1 := Lib.hid (HB0.out.trans (hb1.mono (by simp; omega)))
  have HBOX1 := Lib.hid (HBOX0.out.below hb1 (by simp; omega))
  have HRES1 := Lib.hid (HRES0.out.below hb1 (by simp))
  have HO1 := Lib.hid hO1
  have HF1 := Lib.hid (show Fresh (w.heap.size + 2) w1.heap.size F1 from by simpa using hF1)
  have hz1 := HRES1.out.lt
  have hz1' : w.heap.size + 2 ≤ w1.heap.size := by omega
  obtain ⟨k0, k1, k2, k3, k4, k5, kf⟩ := HBOX1.out
  try simp only at k0 k1 k2 k3 k4 k5
  clear hb1 hO1 hF1 H1
  go_wp2_with fail
  have hbx : Below w.heap.size w (w1.setCell ⟨w.heap.size, 3, none⟩ (.slice A1 x.sl c1)) := HB1.out.setCell (Nat.le_refl _) _
  have H2 := Lib.hid (clone_int64 x.aa x.al x.ac B a _ (HA.out.keep (Keeps.of_below hbx hB)) (by have := hbx.size; omega) hal)
  have HBX := Lib.hid hbx
  clear hbx k0 k1 k2 k3 k4 k5 kf
  refine H2.out.mono ?_
  rintro e w2 ⟨A2, c2, F2, rfl, hO2, hF2, hb2, hc2, hl2⟩
  have HB2 := Lib.hid (HBX.out.trans (hb2.mono HBX.out.size))
  have HBOX2 := Lib.hid ((HBOX1.out.set3 A1 x.sl c1).below hb2 (by simp [World.setCell]; omega))
  have HRES2 := Lib.hid ((HRES1.out.other (b' := w.heap.size) (o := 3) (by omega) (.slice A1 x.sl c1)).below hb2 (by simp [World.setCell]; omega))
  have HO1b := Lib.hid (HO1.out.kept (w' := w2) (fun b hb => (hb2.block b (by have := HF1.out.hi b hb; simpa [World.setCell] using this)).trans (Below.heap_setCell _ _ _ _ (by have := HF1.out.lo b hb; show b ≠ w.heap.size; omega))))
  have HO2 := Lib.hid hO2
  have HF2 := Lib.hid (show Fresh w1.heap.size w2.heap.size F2 from by simpa [World.setCell] using hF2)
  have hz2 := HRES2.out.lt
  have hz12 : w1.heap.size ≤ w2.heap.size := by have := hb2.size; simpa [World.setCell] using this
  obtain ⟨k0, k1, k2, k3, k4, k5, kf⟩ := HBOX2.out
  try simp only at k0 k1 k2 k3 k4 k5
  clear hb2 hO2 hF2 H2
  go_wp2_with fail
  have HB3 := Lib.hid (HB2.out.setCell (p := ⟨w.heap.size, 4, none⟩) (Nat.le_refl _) (.slice A2 x.al c2))
  have HBOX3 := Lib.hid (HBOX2.out.set4 A2 x.al c2)
  have HRES3 := Lib.hid (HRES2.out.other (b' := w.heap.size) (o := 4) (by omega) (.slice A2 x.al c2))
  have HO1c := Lib.hid (HO1b.out.kept (w' := w2.setCell ⟨w.heap.size, 4, none⟩ (.slice A2 x.al c2)) (fun b hb => Below.heap_setCell _ _ _ _ (by have := HF1.out.lo b hb; show b ≠ w.heap.size; omega)))
  have HO2c := Lib.hid (HO2.out.kept (w' := w2.setCell ⟨w.heap.size, 4, none⟩ (.slice A2 x.al c2)) (fun b hb => Below.heap_setCell _ _ _ _ (by have := HF2.out.lo b hb; show b ≠ w.heap.size; omega)))
  have hz3 : (w2.setCell ⟨w.heap.size, 4, none⟩ (.slice A2 x.al c2)).heap.size = w2.heap.size := by simp [World.setCell]
  have HZ3 := Lib.hid hz3
  clear k0 k1 k2 k3 k4 k5 kf hz3
  generalize w2.setCell ⟨w.heap.size, 4, none⟩ (.slice A2 x.al c2) = w3 at HB3 HBOX3 HRES3 HO1c HO2c HZ3 ⊢
  go_loopw [3, 21] (fun v i wr => ∃ (k : Nat) (ys : List TV) (FK : List Nat), k ≤ x.kl ∧ i = .int .i64 k ∧ Grows w3 w3.heap.size l ys k v wr FK) (fun _ i _ => x.kl - (intOf i).toNat)
  case atStart => exact ⟨0, [], [], Nat.zero_le _, rfl, Grows.start w3 l⟩
  case round =>
    obtain ⟨i, ys, FK, hi, rfl, hrel⟩ := hrel
    have HG := Lib.hid hrel
    clear hrel
    by_cases hlt : i < x.kl
    · obtain ⟨u, hu⟩ : ∃ u, l[i]? = some u := ⟨l[i]'(by rw [← HL.out]; exact hlt), by simp⟩
      obtain ⟨b, o, y, he, hb, hat, hru⟩ := HR.out.kid (t := T.mk k s n sh a l) (j := i) hu
      have HBR := Lib.hid (HB3.out.trans (HG.out.below.mono (Nat.le_trans (by omega) HB3.out.size)))
      have hat' := hat.keep hb (Keeps.of_below HBR.out hB)
      have HU := Lib.hid hu
      have hbw : b < wr.heap.size := by have := HBR.out.size; omega
      obtain ⟨q0, q1, q2, q3, q4, q5⟩ := hat'
      have hba := (Below.refl wr.heap.size wr).alloc (Nat.le_refl _) (.cells y.cells 29)
      have HC := Lib.hid (HIH.out u (List.mem_of_getElem? hu) (by have := T.nodes_mem (List.mem_of_getElem? hu); simp only [T.nodes] at hn; omega) y B _ (hru.below (HBR.out.trans (hba.mono HBR.out.size)) hB) (by have := HBR.out.size; simp; omega))
      simp only [TV.val, TV.cells] at HC hba
      have HBA := Lib.hid hba
      rw [he]
      clear he hat hru hu hba
      go_wp2_with fail
      refine HC.out.mono ?_
      rintro e w4 ⟨y', G, rfl, hO, hF, hb4⟩
      have HBB := Lib.hid ((HBA.out.trans (hb4.mono (by simp))).alloc (by have := hb4.size; simp at this; omega) (.cells y'.cells 29))
      have HK4 := Lib.hid (HG.out.kept HBB.out)
      have HO := Lib.hid (hO.below hF ((Below.refl w4.heap.size w4).alloc (Nat.le_refl _) (.cells y'.cells 29)) (Nat.le_refl _))
      have HF := Lib.hid (hF.mono (a' := wr.heap.size) (b' := (w4.alloc (.cells y'.cells 29)).heap.size) (by simp) (by simp))
      clear hb4 hO hF q0 q1 q2 q3 q4 q5
      obtain ⟨i0, hi0, hz0, hz1, hz2⟩ := info_parts info_term0
      have HROW := Lib.hid HK4.out.row
      simp only [TV.val, TV.cells] at HROW ⊢
      go_wp2_with (at_builtin; refine wpList_append_own_at _ rfl _ _ 27 rfl w3.heap.size 29 i0 _ 6 104 Tryz.underlying27 hi0 hz0 hz1 hz2 rfl (by decide) _ _ _ rfl HROW.out ⟨w4.heap.size, 0, none⟩ 1 1 y'.cells.toList rfl rfl (row_new w4 y'.cells _) (cells_one y') (by unfold maxLen; omega) (by omega) HK4.out.hbase ?_)
      intro v' w5 hown' hgrow _ hloc
      have HST := Lib.hid (HG.out.step HU.out HBB.out HO.out HF.out hgrow hown' (by simpa using hloc))
      clear hown' hgrow hloc
      go_wp2_with fail
      go_roundw
      case rel => exact ⟨i + 1, _, _, by omega, by go_num, HST.out⟩
      case measure => simp [intOf]; omega
    · obtain rfl : i = x.kl := by omega
      obtain ⟨A, c, F3, rfl, hOB, hOL, hFr, hkc, hcm, hnone, hsome⟩ := HG.out.ends HL.out
      have HBW := Lib.hid (HB3.out.trans (HG.out.below.mono (Nat.le_trans (by omega) HB3.out.size)))
      have HBOXW := Lib.hid (HBOX3.out.below HG.out.below (by have := HBOX3.out.lt; omega))
      have HRESW := Lib.hid (HRES3.out.below HG.out.below (by have := HRES3.out.lt; omega))
      have HO1w := Lib.hid (HO1c.out.kept (fun b hb => HG.out.below.block b (by have := HF1.out.hi b hb; have := HZ3.out; omega)))
      have HO2w := Lib.hid (HO2c.out.kept (fun b hb => HG.out.below.block b (by have := HF2.out.hi b hb; have := HZ3.out; omega)))
      have HOW := Lib.hid (twin_own HR.out HO1w.out HO2w.out hOB hOL hl1 hc1 hl2 hc2)
      have HFW := Lib.hid (show Fresh (w.heap.size + 2) wr.heap.size (F1 ++ F2 ++ F3 ++ FK) from by
        rw [List.append_assoc]
        exact ((HF1.out.app HF2.out (by omega) hz12).app (hFr.mono (by have := HZ3.out; omega) (Nat.le_refl _)) (by omega) (by have := HG.out.hbase; have := HZ3.out; omega)))
      obtain ⟨k0, k1, k2, k3, k4, k5, kf⟩ := HBOXW.out
      obtain ⟨r0, r1, r2, r3, r4, r5, rf⟩ := HRESW.out
      try simp only at k0 k1 k2 k3 k4 k5
      try simp only at r0 r1 r2 r3 r4 r5
      clear hOB hOL hFr
      cases A with
      | none =>
        obtain ⟨rfl, hk0⟩ := hnone rfl
        have HOW0 := HOW.out
        rw [hk0] at HOW0
        have HOW1 := Lib.hid HOW0
        rw [hk0]
        clear hnone hsome HOW0
        have HK0 := Lib.hid hk0
        clear hk0
        go_wp2_with (go_at_call 86; refine (clip_none _).mono ?_; rintro e w6 ⟨rfl, rfl⟩)
        refine bodyPost_ret (v := .agg #[.int .i64 x.kind, .string x.text, .int .i64 x.n, .slice A1 x.sl c1, .slice A2 x.al c2, .slice none 0 0]) (by simp [results, Tryz.results55, r0, r1, r2, r3, r4, r5, rf, k0, k1, k2, k3, k4, k5, kf, go_sem]) rfl ?_
        refine ⟨_, _, rfl, Own.kept _ _ _ HOW1.out (fun b hb => ?_), HFW.out.mono (by omega) ?_, ?_⟩
        · have := HFW.out.lo b hb
          iterate 7 (refine (Below.heap_setCell _ _ _ _ (fun e => by simp only at e; omega)).trans ?_)
          rfl
        · simp [World.setCell]
        · iterate 7 (refine Below.setCell ?_ (by simp) _)
          exact HBW.out
      | some g0 =>
        obtain ⟨g, hg⟩ := hsome g0 rfl
        cases hg
        clear hnone hsome
        have HKC := Lib.hid (⟨hkc, hcm⟩ : x.kl ≤ c ∧ c ≤ maxLen)
        clear hcm
        go_wp2_with (go_at_call 86; refine (clip_some _ _ _ _ HKC.out.1 HKC.out.2).mono ?_; rintro e w6 ⟨rfl, rfl⟩)
        refine bodyPost_ret (v := .agg #[.int .i64 x.kind, .string x.text, .int .i64 x.n, .slice A1 x.sl c1, .slice A2 x.al c2, .slice (some ⟨g, 0, none⟩) x.kl x.kl]) (by simp [results, Tryz.results55, r0, r1, r2, r3, r4, r5, rf, k0, k1, k2, k3, k4, k5, kf, go_sem]) rfl ?_
        refine ⟨_, _, rfl, Own.kept _ _ _ HOW.out (fun b hb => ?_), HFW.out.mono (by omega) ?_, ?_⟩
        · have := HFW.out.lo b hb
          iterate 7 (refine (Below.heap_setCell _ _ _ _ (fun e => by simp only at e; omega)).trans ?_)
          rfl
        · simp [World.setCell]
        · iterate 7 (refine Below.setCell ?_ (by simp) _)
          exact HBW.out
end Go.Proofs.YtboondbognbnnaaGreatDoor
