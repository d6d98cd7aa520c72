/- Package slices: Clone at numbers. -/
import Derived.Test.YtnnhbpgpkpbinaaGreatOwn
import Derived.Test.YtnnhbpgpkpbinaaGreatTerm3
import Derived.Outline
namespace Go.Proofs.YtnnhbpgpkpbinaaGreat
open Go.RowKit

def ClonePost (ty : Nat) (len : Nat) (xs : List Int) (w : World) (e : Ending) (w' : World) : Prop :=
  ∃ A c F, e = .returned (.slice A len c) ∧ OwnI w' ty A len c xs F ∧ Fresh w.heap.size w'.heap.size F ∧ Below w.heap.size w w' ∧ c ≤ maxLen ∧ len ≤ c
theorem ints_one (k : IntKind) (xs : List Int) : ∀ u ∈ xs.map (Value.int k), u.oneCell' = true := by
  intro u hu
  obtain ⟨n, _, rfl⟩ := List.mem_map.1 hu
  rfl
theorem Ints.news {w : World} {B len : Nat} {b o : Nat} {xs : List Int} (h : Ints w B (some ⟨b, o, none⟩) len xs) : ∀ j u, (xs.map (Value.int .i64))[j]? = some u → w.cell? ((⟨b, o, none⟩ : Addr).add j) = some u := by
  intro j u hu
  rw [List.getElem?_map] at hu
  cases hx : xs[j]? with
  | none => rw [hx] at hu; cases hu
  | some v =>
    rw [hx] at hu
    simp at hu
    subst hu
    have hlt := (List.getElem?_eq_some_iff.1 hx).1
    obtain ⟨b', o', e, hb, hc⟩ := h.2 (by have := h.1; omega)
    cases e
    have := hc j v hx
    by_cases h0 : j = 0
    · subst h0; simpa [Addr.add] using this
    · simpa [Addr.add, h0] using this
/-- a row of numbers of the call's own, as a slice of its own -/
theorem ownI_of_row {w : World} {base ty : Nat} {b n cap : Nat} {xs : List Int} (h : w.ownsRow base ty 1 (.slice (some ⟨b, 0, none⟩) n cap) n (xs.map (Value.int .i64))) : OwnI w ty (some ⟨b, 0, none⟩) n cap xs [b] ∧ base ≤ b ∧ b < w.heap.size ∧ cap ≤ maxLen ∧ n ≤ cap := by
  have h' := h
  obtain ⟨hl, ⟨h0, _⟩ | ⟨g, cap', cur, e, hg, hcur, h4, h5, h6, h7⟩⟩ := h
  · cases h0
  · cases e
    refine ⟨⟨by simpa using hl, .inr ⟨b, cur, rfl, rfl, hcur, h4, h5, by omega⟩, fun b' e i v hv => ?_⟩, hg, (Array.getElem?_eq_some_iff.1 hcur).1, h5, h4⟩
    cases e
    have hlt := (List.getElem?_eq_some_iff.1 hv).1
    rw [h'.cellAt i (by simp at hl; omega), List.getElem?_map, hv]
    rfl

theorem info_int0 : (Tryz.prog.info? 3).map (fun i => (i.zero, i.size, i.bytes)) = some (some (.int .i64 0), 1, 8) := by kernel_rfl
set_option maxRecDepth 100000 in
set_option maxHeartbeats 1000000 in
theorem clone_int (A : Option Addr) (len cap B : Nat) (xs : List Int) (w : World) (h : Ints w B A len xs) (hB : B ≤ w.heap.size) (hl : len ≤ 17592186044416) :
    Calls Tryz.prog 87 #[.slice A len cap] w (ClonePost 3 len xs w) := by
  have hnil := fun (w : World) (a : Option Addr) (n c : Nat) => Lib.run_eql_slice_nil (P := Tryz.prog) w 23 3 a n c 0 0 Tryz.underlying23
  obtain ⟨i0, hi, hz0, hz1, hz2⟩ := info_parts info_int0
  cases A with
  | none =>
    obtain rfl : len = 0 := by
      by_cases h0 : len = 0
      · exact h0
      · obtain ⟨b, o, e, _⟩ := h.2 (by omega); cases e
    obtain rfl : xs = [] := List.eq_nil_of_length_eq_zero h.1
    clear h
    go_enter Tryz.func87, Tryz.ntmps87
    go_wp2_with fail
    go_ret
    exact ⟨none, 0, [], rfl, ⟨rfl, .inl ⟨rfl, rfl, rfl⟩, fun b e => by cases e⟩, Fresh.nil _ _, Below.refl _ _, Nat.zero_le _, Nat.zero_le _⟩
  | some a =>
    have hnews : ∀ j u, (xs.map (Value.int .i64))[j]? = some u → w.cell? (a.add j) = some u := by
      by_cases h0 : len = 0
      · obtain rfl : xs = [] := List.eq_nil_of_length_eq_zero (h.1.trans h0)
        intro j u hu; simp at hu
      · obtain ⟨b, o, e, _⟩ := h.2 (by omega)
        cases e
        exact h.news
    have HN := Lib.hid hnews
    have HL := Lib.hid h.1
    clear hnews h
    go_enter Tryz.func87, Tryz.ntmps87
    have hown : Hid ((w.alloc (.cells #[] 3)).ownsRow w.heap.size 3 1 (.slice (some ⟨w.heap.size, 0, none⟩) 0 0) 0 []) :=
      ⟨rfl, .inr ⟨w.heap.size, 0, #[], rfl, Nat.le_refl _, by show (w.heap.push _)[w.heap.size]? = _; simp, Nat.le_refl _, Nat.zero_le _, rfl, rfl⟩⟩
    go_wp2_with (at_builtin; refine wpList_append_own_at _ rfl _ _ 23 rfl w.heap.size 3 i0 (.int .i64 0) 1 8 Tryz.underlying23 hi hz0 hz1 hz2 rfl (by decide) _ _ _ rfl hown.out a len cap (xs.map (Value.int .i64)) rfl (by rw [List.length_map, HL.out]; omega) (fun j u hu => (World.cell?_of_block (a := a.add j) (Below.heap_alloc w _ _ (by have := HN.out j u hu; have := World.block_lt_of_cell? w _ this; exact this))).trans (HN.out j u hu)) (ints_one _ _) (by unfold maxLen; omega) (by omega) (by simp) ?_)
    intro v w1 hown1 hgrow hnl hloc
    have hB1 : Below w.heap.size w w1 := ((Below.refl _ _).alloc (Nat.le_refl _) _).grown hgrow (by simp) (fun k hk => by cases hk; exact Nat.le_refl _)
    have hown2 : w1.ownsRow w.heap.size 3 1 v len (xs.map (Value.int .i64)) := by simpa using hown1
    clear hown1
    obtain ⟨g, c, rfl⟩ : ∃ g c, v = .slice (some ⟨g, 0, none⟩) len c := by
      obtain ⟨_, ⟨h0, _⟩ | ⟨g, cap', cur, e, _⟩⟩ := hown2
      · exact (hnl h0).elim
      · exact ⟨g, cap', e⟩
    obtain ⟨h1, h2, h3, h4, h5⟩ := ownI_of_row hown2
    clear hown2 hgrow hnl hloc hown
    go_wp2_with fail
    go_ret
    exact ⟨_, _, _, rfl, h1, Fresh.one h2 h3, hB1, h4, h5⟩

theorem info_int640 : (Tryz.prog.info? 2).map (fun i => (i.zero, i.size, i.bytes)) = some (some (.int .i64 0), 1, 8) := by kernel_rfl
set_option maxRecDepth 100000 in
set_option maxHeartbeats 1000000 in
theorem clone_int64 (A : Option Addr) (len cap B : Nat) (xs : List Int) (w : World) (h : Ints w B A len xs) (hB : B ≤ w.heap.size) (hl : len ≤ 17592186044416) :
    Calls Tryz.prog 88 #[.slice A len cap] w (ClonePost 2 len xs w) := by
  have hnil := fun (w : World) (a : Option Addr) (n c : Nat) => Lib.run_eql_slice_nil (P := Tryz.prog) w 25 2 a n c 0 0 Tryz.underlying25
  obtain ⟨i0, hi, hz0, hz1, hz2⟩ := info_parts info_int640
  cases A with
  | none =>
    obtain rfl : len = 0 := by
      by_cases h0 : len = 0
      · exact h0
      · obtain ⟨b, o, e, _⟩ := h.2 (by omega); cases e
    obtain rfl : xs = [] := List.eq_nil_of_length_eq_zero h.1
    clear h
    go_enter Tryz.func88, Tryz.ntmps88
    go_wp2_with fail
    go_ret
    exact ⟨none, 0, [], rfl, ⟨rfl, .inl ⟨rfl, rfl, rfl⟩, fun b e => by cases e⟩, Fresh.nil _ _, Below.refl _ _, Nat.zero_le _, Nat.zero_le _⟩
  | some a =>
    have hnews : ∀ j u, (xs.map (Value.int .i64))[j]? = some u → w.cell? (a.add j) = some u := by
      by_cases h0 : len = 0
      · obtain rfl : xs = [] := List.eq_nil_of_length_eq_zero (h.1.trans h0)
        intro j u hu; simp at hu
      · obtain ⟨b, o, e, _⟩ := h.2 (by omega)
        cases e
        exact h.news
    have HN := Lib.hid hnews
    have HL := Lib.hid h.1
    clear hnews h
    go_enter Tryz.func88, Tryz.ntmps88
    have hown : Hid ((w.alloc (.cells #[] 2)).ownsRow w.heap.size 2 1 (.slice (some ⟨w.heap.size, 0, none⟩) 0 0) 0 []) :=
      ⟨rfl, .inr ⟨w.heap.size, 0, #[], rfl, Nat.le_refl _, by show (w.heap.push _)[w.heap.size]? = _; simp, Nat.le_refl _, Nat.zero_le _, rfl, rfl⟩⟩
    go_wp2_with (at_builtin; refine wpList_append_own_at _ rfl _ _ 25 rfl w.heap.size 2 i0 (.int .i64 0) 1 8 Tryz.underlying25 hi hz0 hz1 hz2 rfl (by decide) _ _ _ rfl hown.out a len cap (xs.map (Value.int .i64)) rfl (by rw [List.length_map, HL.out]; omega) (fun j u hu => (World.cell?_of_block (a := a.add j) (Below.heap_alloc w _ _ (by have := HN.out j u hu; have := World.block_lt_of_cell? w _ this; exact this))).trans (HN.out j u hu)) (ints_one _ _) (by unfold maxLen; omega) (by omega) (by simp) ?_)
    intro v w1 hown1 hgrow hnl hloc
    have hB1 : Below w.heap.size w w1 := ((Below.refl _ _).alloc (Nat.le_refl _) _).grown hgrow (by simp) (fun k hk => by cases hk; exact Nat.le_refl _)
    have hown2 : w1.ownsRow w.heap.size 2 1 v len (xs.map (Value.int .i64)) := by simpa using hown1
    clear hown1
    obtain ⟨g, c, rfl⟩ : ∃ g c, v = .slice (some ⟨g, 0, none⟩) len c := by
      obtain ⟨_, ⟨h0, _⟩ | ⟨g, cap', cur, e, _⟩⟩ := hown2
      · exact (hnl h0).elim
      · exact ⟨g, cap', e⟩
    obtain ⟨h1, h2, h3, h4, h5⟩ := ownI_of_row hown2
    clear hown2 hgrow hnl hloc hown
    go_wp2_with fail
    go_ret
    exact ⟨_, _, _, rfl, h1, Fresh.one h2 h3, hB1, h4, h5⟩

end Go.Proofs.YtnnhbpgpkpbinaaGreat
