/- Package prim: the rows. Package prim: Of gives the primitive of a spelling. -/
import Derived.Test.YtboondbognbnnaaGreatDoorQPrim1
import Derived.Great.BuildSlice
import Derived.Maps.OwnOps
import Derived.Maps.Views
set_option linter.unusedVariables false
set_option linter.unusedSimpArgs false
namespace Go.Proofs.YtboondbognbnnaaGreatDoor
open Go.RowKit

structure Ent where
  s : List UInt8
  m : Bool
  d : Bool
  r0 : Int
  r1 : Int
  r2 : Int
  id : Int
  has : Bool
  com : Bool
  op : Int
  fm : Option Nat
  fd : Option Nat
def Ent.cells (e : Ent) : Array Value := entryOf ⟨e.s.toArray⟩ e.m e.d e.r0 e.r1 e.r2 e.id e.has e.com e.op (FnV e.fm) (FnV e.fd)
def entCells (l : List Ent) : List Value := l.flatMap fun e => e.cells.toList
def sumsE : List Ent := [
  ⟨[43], true, true, 0, 0, 0, 0, true, true, 1, some 160, some 161⟩,
  ⟨[45], true, true, 0, 0, 0, 0, true, false, 2, some 160, some 161⟩,
  ⟨[42], true, true, 0, 0, 0, 1, true, true, 3, some 160, some 161⟩,
  ⟨[37], false, true, 0, 0, 0, 1, true, false, 4, none, some 161⟩,
  ⟨[124], true, true, 0, 0, 0, 0, true, false, 5, some 160, some 161⟩,
  ⟨[60, 46], true, true, 0, 0, 0, 9223372036854775807, true, true, 6, some 160, some 161⟩,
  ⟨[62, 46], true, true, 0, 0, 0, (-9223372036854775808), true, true, 7, some 160, some 161⟩,
  ⟨[60], false, true, 0, 0, 0, 0, true, false, 8, none, some 161⟩,
  ⟨[62], false, true, 0, 0, 0, 0, true, false, 9, none, some 161⟩,
  ⟨[61], true, true, 64, 0, 0, 1, true, true, 10, some 165, some 161⟩,
  ⟨[126, 58], true, true, 64, 0, 0, 0, true, true, 11, some 165, some 161⟩,
  ⟨[60, 58], true, true, 0, 0, 0, 1, true, false, 12, some 160, some 161⟩,
  ⟨[62, 58], true, true, 0, 0, 0, 1, true, false, 13, some 160, some 161⟩,
  ⟨[43, 46], false, true, 0, 0, 0, 0, true, true, 14, none, some 161⟩,
  ⟨[42, 46], false, true, 0, 0, 0, 1, true, true, 15, none, some 161⟩,
  ⟨[43, 58], true, true, 0, 0, 0, 0, false, true, 16, some 160, some 161⟩,
  ⟨[42, 58], true, true, 0, 0, 0, 0, false, true, 17, some 160, some 161⟩,
  ⟨[45, 46], true, true, 0, 64, 64, 0, false, false, 18, some 160, some 166⟩,
  ⟨[45, 58], true, true, 0, 64, 64, 0, false, true, 19, some 160, some 166⟩,
  ⟨[94], false, true, 0, 0, 0, 1, true, false, 20, none, some 161⟩,
  ⟨[33], true, true, 0, 0, 0, 1, true, false, 21, some 160, some 161⟩]
def othersE : List Ent := [
  ⟨[35], true, true, 64, 1, 64, 0, false, false, 22, some 167, some 169⟩,
  ⟨[36], true, true, 64, 1, 64, 0, false, false, 23, some 167, some 168⟩,
  ⟨[44], true, true, 64, 64, 64, 0, false, false, 24, some 167, some 168⟩,
  ⟨[44, 46], true, true, 64, 64, 64, 0, false, false, 25, some 167, some 168⟩,
  ⟨[44, 58], true, true, 64, 64, 64, 0, false, false, 26, some 167, some 168⟩,
  ⟨[123], false, true, 0, 0, 64, 0, false, false, 27, none, some 166⟩,
  ⟨[123, 46], true, true, 64, 1, 64, 0, false, false, 28, some 167, some 168⟩,
  ⟨[125, 46], true, true, 64, 1, 64, 0, false, false, 29, some 167, some 168⟩,
  ⟨[123, 58], true, false, 64, 0, 0, 0, false, false, 30, some 167, none⟩,
  ⟨[125, 58], true, false, 64, 0, 0, 0, false, false, 31, some 167, none⟩,
  ⟨[124, 46], true, true, 64, 1, 64, 0, false, false, 32, some 167, some 168⟩,
  ⟨[124, 58], true, true, 64, 1, 64, 0, false, false, 33, some 167, some 168⟩,
  ⟨[105, 46], true, true, 1, 64, 64, 0, false, false, 34, some 170, some 166⟩,
  ⟨[101, 46], false, true, 0, 64, 64, 0, false, false, 35, none, some 166⟩,
  ⟨[126, 46], true, false, 64, 0, 0, 0, false, false, 36, some 165, none⟩,
  ⟨[47, 58], true, true, 64, 64, 64, 0, false, false, 37, some 165, some 166⟩,
  ⟨[92, 58], true, true, 64, 64, 64, 0, false, false, 38, some 165, some 166⟩,
  ⟨[35, 46], true, true, 1, 1, 1, 0, false, false, 39, some 170, some 169⟩,
  ⟨[35, 58], true, true, 64, 1, 0, 0, false, false, 40, some 170, some 169⟩,
  ⟨[91], true, true, 64, 64, 64, 0, false, false, 41, some 167, some 168⟩,
  ⟨[93], true, true, 64, 64, 64, 0, false, false, 42, some 167, some 168⟩,
  ⟨[73, 46], true, false, 1, 0, 0, 0, false, false, 43, some 170, none⟩]

/-- what a row-maker hands back: a row of its own -/
def RowsPost (l : List Ent) (w : World) (e : Ending) (w' : World) : Prop :=
  ∃ b, e = .returned (.slice (some ⟨b, 0, none⟩) l.length l.length) ∧ w.heap.size ≤ b ∧ w'.heap[b]? = some (.cells (entCells l).toArray 189 (0, 0)) ∧ Below w.heap.size w w' ∧ b < w'.heap.size
theorem heap_new (w : World) (o : Obj) : (w.alloc o).heap[w.heap.size]? = some o := by
  show (w.heap.push o)[w.heap.size]? = some o
  simp
def zeroEnt : Array Value := entryOf ⟨#[]⟩ false false 0 0 0 0 false false 0 .nilFunc .nilFunc
theorem info_ent0 : (Tryz.prog.info? 189).map (fun i => (i.zero.map (·.cells), i.size)) = some (some zeroEnt, 12) := by kernel_rfl
theorem info_ent : ∃ ie z, Tryz.prog.info? 189 = some ie ∧ ie.zero = some z ∧ ie.size = 12 ∧ z.cells = zeroEnt := by
  have h := info_ent0
  cases hi : Tryz.prog.info? 189 with
  | none => rw [hi] at h; cases h
  | some ie =>
    rw [hi] at h
    cases hz : ie.zero with
    | none => simp [hz] at h
    | some z => simp [hz] at h; exact ⟨ie, z, rfl, hz, h.2, h.1⟩

set_option maxRecDepth 100000 in
set_option maxHeartbeats 4000000 in
theorem sums_calls (w : World) : Calls Tryz.prog 145 #[] w (RowsPost sumsE w) := by
  have hB := Below.refl w.heap.size w
  have hle := Nat.le_refl w.heap.size
  go_enter Tryz.func145, Tryz.ntmps145
  go_wp2_with (first
    | (go_at_call 162; (with_reducible refine (made_rel hB hle (by first | exact isFn_nil | exact isFn_func _) (by first | exact isFn_nil | exact isFn_func _)).mono ?_); clear hB hle; rintro e w1 ⟨rfl, hB, hle⟩)
    | (go_at_call 163; (with_reducible refine (with_rel hB hle (by first | exact isFn_nil | exact isFn_func _) (by first | exact isFn_nil | exact isFn_func _)).mono ?_); clear hB hle; rintro e w1 ⟨rfl, hB, hle⟩)
    | (go_at_call 164; (with_reducible refine (both_rel hB hle (by first | exact isFn_nil | exact isFn_func _) (by first | exact isFn_nil | exact isFn_func _)).mono ?_); clear hB hle; rintro e w1 ⟨rfl, hB, hle⟩))
  obtain ⟨ie, z, h1, h2, h3, h4⟩ := info_ent
  refine wp_buildSlice 181 189 21 _ rfl (entCells sumsE).toArray ie z (by kernel_rfl) h1 h2 (by rw [h3]; decide) (by rw [h3]; decide) ?_ ?_
  · rw [h3, h4]
    kernel_rfl
  · go_wp2_with fail
    go_ret
    exact ⟨w1.heap.size, rfl, hle, heap_new _ _, hB.alloc hle _, by simp⟩

set_option maxRecDepth 100000 in
set_option maxHeartbeats 4000000 in
theorem others_calls (w : World) : Calls Tryz.prog 146 #[] w (RowsPost othersE w) := by
  have hB := Below.refl w.heap.size w
  have hle := Nat.le_refl w.heap.size
  go_enter Tryz.func146, Tryz.ntmps146
  go_wp2_with (first
    | (go_at_call 162; (with_reducible refine (made_rel hB hle (by first | exact isFn_nil | exact isFn_func _) (by first | exact isFn_nil | exact isFn_func _)).mono ?_); clear hB hle; rintro e w1 ⟨rfl, hB, hle⟩)
    | (go_at_call 163; (with_reducible refine (with_rel hB hle (by first | exact isFn_nil | exact isFn_func _) (by first | exact isFn_nil | exact isFn_func _)).mono ?_); clear hB hle; rintro e w1 ⟨rfl, hB, hle⟩)
    | (go_at_call 164; (with_reducible refine (both_rel hB hle (by first | exact isFn_nil | exact isFn_func _) (by first | exact isFn_nil | exact isFn_func _)).mono ?_); clear hB hle; rintro e w1 ⟨rfl, hB, hle⟩))
  obtain ⟨ie, z, h1, h2, h3, h4⟩ := info_ent
  refine wp_buildSlice 181 189 22 _ rfl (entCells othersE).toArray ie z (by kernel_rfl) h1 h2 (by rw [h3]; decide) (by rw [h3]; decide) ?_ ?_
  · rw [h3, h4]
    kernel_rfl
  · go_wp2_with fail
    go_ret
    exact ⟨w1.heap.size, rfl, hle, heap_new _ _, hB.alloc hle _, by simp⟩

end Go.Proofs.YtboondbognbnnaaGreatDoor

namespace Go.Proofs.YtboondbognbnnaaGreatDoor
open Go.RowKit Go.WideMaps Go.Maps

def allE : List Ent := sumsE ++ othersE
theorem entCells_append (a b : List Ent) : entCells (a ++ b) = entCells a ++ entCells b := by simp [entCells]
theorem entCells_len (l : List Ent) : (entCells l).length = l.length * 12 := by
  induction l with
  | nil => rfl
  | cons e l ih =>
    have : entCells (e :: l) = e.cells.toList ++ entCells l := by simp [entCells]
    rw [this, List.length_append, ih]
    simp [Ent.cells, entryOf]; omega
theorem entCells_at {l : List Ent} {i : Nat} {e : Ent} (h : l[i]? = some e) (j : Nat) (hj : j < 12) : (entCells l)[i * 12 + j]? = e.cells.toList[j]? := by
  induction l generalizing i with
  | nil => simp at h
  | cons x l ih =>
    have hx : entCells (x :: l) = x.cells.toList ++ entCells l := by simp [entCells]
    have h12 : x.cells.toList.length = 12 := by simp [Ent.cells, entryOf]
    rw [hx]
    cases i with
    | zero =>
      simp at h; subst h
      rw [List.getElem?_append_left (by omega)]; simp
    | succ i =>
      rw [List.getElem?_append_right (by omega), h12, show (i + 1) * 12 + j - 12 = i * 12 + j from by omega]
      exact ih (by simpa using h)

/-- what rows hands back -/
def AllPost (w : World) (e : Ending) (w' : World) : Prop :=
  ∃ b cap, e = .returned (.slice (some ⟨b, 0, none⟩) 43 cap) ∧ w.heap.size ≤ b ∧ (∀ j u, (entCells allE)[j]? = some u → w'.cell? ⟨b, j, none⟩ = some u) ∧ Below w.heap.size w w' ∧ b < w'.heap.size

theorem info_bytes0 : (Tryz.prog.info? 189).map (·.bytes) = some 88 := by kernel_rfl
theorem info_ent2 : ∃ ie z, Tryz.prog.info? 189 = some ie ∧ ie.zero = some z ∧ ie.size = 12 ∧ ie.bytes = 88 ∧ z.cells.size = 12 := by
  obtain ⟨ie, z, h1, h2, h3, h4⟩ := info_ent
  have h := info_bytes0
  rw [h1] at h
  exact ⟨ie, z, h1, h2, h3, by simpa using h, by rw [h4]; rfl⟩
theorem ents_one : (entCells othersE).all (·.oneCell') = true := by kernel_rfl

set_option maxHeartbeats 1000000 in
theorem rows_calls (w : World) : Calls Tryz.prog 125 #[] w (AllPost w) := by
  obtain ⟨i0, z, hi, hz0, hz1, hz2, hz3⟩ := info_ent2
  go_enter Tryz.func125, Tryz.ntmps125
  go_wp2_with fail
  refine (sums_calls w).mono ?_
  rintro e w1 ⟨b1, rfl, hb1, hc1, hB1, hl1⟩
  have HC1 := Lib.hid hc1
  clear hc1
  simp only [show sumsE.length = 21 from rfl]
  go_wp2_with fail
  refine (others_calls w1).mono ?_
  rintro e w2 ⟨b2, rfl, hb2, hc2, hB2, hl2⟩
  have HC2 := Lib.hid hc2
  clear hc2
  simp only [show othersE.length = 22 from rfl]
  have hown : Hid (w2.ownsRow w.heap.size 189 12 (.slice (some ⟨b1, 0, none⟩) 21 21) 21 (entCells sumsE)) :=
    ⟨entCells_len sumsE, .inr ⟨b1, 21, (entCells sumsE).toArray, rfl, hb1, (hB2.block b1 hl1).trans HC1.out, by omega, by unfold maxLen; omega, by simp [entCells_len]; rfl, by
      show ((entCells sumsE).toArray).toList.take (21 * 12) = _
      rw [List.take_of_length_le (by simp [entCells_len]; decide)]⟩⟩
  go_wp2_with (at_builtin; refine wpList_append_own _ rfl _ _ 181 rfl w.heap.size 189 i0 z 12 88 Tryz.underlying181 hi hz0 hz1 hz2 hz3 (by decide) _ _ _ rfl hown.out ⟨b2, 0, none⟩ 22 22 (entCells othersE) rfl (by rw [entCells_len]; rfl) ?c1 (fun u hu => List.all_eq_true.1 ents_one u hu) (by unfold maxLen; decide) (by decide) (Nat.le_trans hB1.size hB2.size) ?_)
  case c1 =>
    intro j u hu
    have := HC2.out
    by_cases h0 : j = 0
    · subst h0; simpa [World.cell?, this, Addr.add] using hu
    · simpa [World.cell?, this, Addr.add, h0] using hu
  intro v w3 hown' hgrow hnil
  have hB3 : Below w.heap.size w w3 := (hB1.trans (hB2.mono hB1.size)).grown hgrow (Nat.le_trans hB1.size hB2.size) (fun k hk => by cases hk; exact hb1)
  obtain ⟨hl, ⟨_, h0⟩ | ⟨g, cap, cur, rfl, hg, hcur, h4, h5, h6, h7⟩⟩ := hown'
  · omega
  have H7 := Lib.hid h7
  clear hown hgrow hnil h7 hl
  go_wp2_with fail
  go_ret
  refine ⟨g, cap, rfl, hg, fun j u hu => ?_, hB3, (Array.getElem?_eq_some_iff.1 hcur).1⟩
  have e : entCells allE = entCells sumsE ++ entCells othersE := entCells_append _ _
  rw [e, ← H7.out, List.getElem?_take] at hu
  split at hu
  · simpa [World.cell?, hcur] using hu
  · cases hu

def putAll (m : DataW Unit) (l : List Ent) : DataW Unit := l.foldl (fun m e => m.put (.string e.s) (.lit (.int .i64 e.op))) m
theorem putAll_snoc (m : DataW Unit) (l : List Ent) (e : Ent) : putAll m (l ++ [e]) = (putAll m l).put (.string e.s) (.lit (.int .i64 e.op)) := by simp [putAll]
theorem putAll_isMap (l : List Ent) : ∀ m : DataW Unit, IsMap m → IsMap (putAll m l) := by
  induction l with
  | nil => exact fun m h => h
  | cons e l ih => exact fun m h => ih _ (h.put _ _)
def findOp (l : List Ent) (k : List UInt8) : Int := ((l.reverse.find? (fun e => e.s == k)).map (·.op)).getD 0
theorem putAll_gen (k : List UInt8) (z : DataW Unit) (l : List Ent) : ∀ m : DataW Unit, IsMap m → (putAll m l).atKey (.string k) z = match l.reverse.find? (fun e => e.s == k) with | some e => .lit (.int .i64 e.op) | none => m.atKey (.string k) z := by
  induction l with
  | nil => exact fun m _ => rfl
  | cons e l ih =>
    intro m hm
    have h := ih (m.put (.string e.s) (.lit (.int .i64 e.op))) (hm.put _ _)
    show (putAll (m.put (.string e.s) (.lit (.int .i64 e.op))) l).atKey (.string k) z = _
    rw [h, List.reverse_cons, List.find?_append]
    cases hf : l.reverse.find? (fun e => e.s == k) with
    | some x => rfl
    | none =>
      by_cases he : e.s = k
      · subst he
        simp [atKey_put_same hm (show WideAt.IsKeyLit (.string e.s) from trivial)]
      · have : (Lit.string k) ≠ .string e.s := fun h => he (by injection h with h; exact h.symm)
        simp [atKey_put_other this, he]
theorem putAll_at (l : List Ent) (k : List UInt8) : (putAll (.map []) l).atKey (.string k) (.lit (.int .i64 0)) = .lit (.int .i64 (findOp l k)) := by
  rw [putAll_gen k _ l _ isMap_empty, findOp]
  cases l.reverse.find? (fun e => e.s == k) <;> rfl

/-- a primitive's number by its spelling; 0: none -/
def T.primNo (s : List UInt8) : Int := if T.isPrim s then (T.spells.idxOf s : Int) + 1 else 0
theorem findOp_spells : T.spells.all (fun x => findOp allE x == T.primNo x) = true := by decide +kernel
theorem allE_spells : allE.all (fun e => T.spells.contains e.s) = true := by decide +kernel
theorem findOp_is (k : List UInt8) : findOp allE k = T.primNo k := by
  by_cases h : T.isPrim k = true
  · have hm : k ∈ T.spells := by simpa [T.isPrim] using h
    simpa using List.all_eq_true.1 findOp_spells k hm
  · rw [T.primNo, if_neg h, findOp]
    have : allE.reverse.find? (fun e => e.s == k) = none := by
      rw [List.find?_eq_none]
      intro e he hk
      have := List.all_eq_true.1 allE_spells e (by simpa using he)
      rw [beq_iff_eq] at hk
      subst hk
      exact h this
    rw [this]; rfl
theorem primNo_pos (k : List UInt8) : decide (0 < T.primNo k) = T.isPrim k := by
  unfold T.primNo
  by_cases h : T.isPrim k = true
  · rw [if_pos h, h, decide_eq_true_eq]; omega
  · rw [if_neg h]; simp at h; rw [h]; rfl

theorem law_string : Keyed Tryz.prog 9 := string_keyed Tryz.underlying9
theorem zero_int (w : World) : (zeroValue 3).run Tryz.prog w = .ok (.int .i64 0) w := by kernel_rfl

/-- what Of answers -/
def PrimPost (s : ByteArray) (w : World) (e : Ending) (w' : World) : Prop :=
  e = .returned (.tuple #[.int .i64 (T.primNo s.data.toList), .bool (T.isPrim s.data.toList)]) ∧ Below w.heap.size w w'

theorem grown_of_below {w w' : World} (h : Below w.heap.size w w') (row : Option Nat) : w.grownBy w' row := ⟨h.os, h.tape, h.output, h.size, fun k hk _ => h.block k hk⟩
theorem ents_cell {w : World} {b : Nat} (hc : ∀ j u, (entCells allE)[j]? = some u → w.cell? ⟨b, j, none⟩ = some u) {i : Nat} {e : Ent} (h : allE[i]? = some e) {j : Nat} {u : Value} (hu : e.cells.toList[j]? = some u) : w.cell? ⟨b, i * 12 + j, none⟩ = some u := by
  have hj : j < 12 := (List.getElem?_eq_some_iff.1 hu).1
  exact hc _ _ ((entCells_at h j hj).trans hu)
/-- at a round's head -/
def OfRel (w : World) (b k : Nat) (wr : World) : Prop :=
  wr.ownsMap Tryz.prog 9 (plainElem Tryz.prog 3) w.heap.size k (putAll (.map []) (allE.take k)) ∧ Below w.heap.size w wr ∧ b < wr.heap.size ∧ ∀ j u, (entCells allE)[j]? = some u → wr.cell? ⟨b, j, none⟩ = some u
theorem of_next {w wr w2 : World} {b k : Nat} {e : Ent} {o : Obj} (hb : w.heap.size < b) (h : OfRel w b k wr) (he : allE[k]? = some e)
    (hown : w2.ownsMap Tryz.prog 9 (plainElem Tryz.prog 3) w.heap.size (k + 1) ((putAll (.map []) (allE.take k)).put (.string e.s) (.lit (.int .i64 e.op)))) (hg : (wr.alloc o).grownBy w2 (some w.heap.size)) : OfRel w b (k + 1) w2 := by
  obtain ⟨h1, h2, h3, h4⟩ := h
  refine ⟨?_, ?_, ?_, fun j u hu => ?_⟩
  · rw [List.take_add_one, he]
    show w2.ownsMap _ _ _ _ _ (putAll _ (allE.take k ++ [e]))
    rw [putAll_snoc]; exact hown
  · exact (h2.alloc h2.size o).grown hg (by have := h2.size; simp; omega) (fun j hj => by cases hj; exact Nat.le_refl _)
  · have := hg.size; simp at this; omega
  · refine hg.cell ?_ (by simp; omega)
    exact (World.cell?_of_block (a := ⟨b, j, none⟩) (Below.heap_alloc wr o b h3)).trans (h4 j u hu)
theorem ret_ib {a b : Int} {c d : Bool} (h : a = b) (k : c = d) : Ending.returned (.tuple #[.int .i64 a, .bool c]) = .returned (.tuple #[.int .i64 b, .bool d]) := by rw [h, k]
def keyEnt (e : Ent) : ByteArray := ⟨e.s.toArray⟩
theorem allE_ops : allE.all (fun e => decide (1 ≤ e.op ∧ e.op ≤ 43) && decide (e.s.length ≤ 2)) = true := by decide +kernel
theorem ent_ops {i : Nat} {e : Ent} (h : allE[i]? = some e) : 1 ≤ e.op ∧ e.op ≤ 43 ∧ e.s.length ≤ 2 := by
  have := List.all_eq_true.1 allE_ops e (List.mem_of_getElem? h)
  simp at this; omega

set_option maxRecDepth 100000 in
set_option maxHeartbeats 4000000 in
theorem prim_calls (s : ByteArray) (w : World) (hs : s.size ≤ maxLen) : Calls Tryz.prog 90 #[.string s] w (PrimPost s w) := by
  have hmm := @run_makeMap Tryz.prog
  go_enter Tryz.func90, Tryz.ntmps90
  go_wp2_with fail
  refine (rows_calls _).mono ?_
  rintro e w1 ⟨b, cap, rfl, hb, hcell, hB, hlt⟩
  have hB0 : Below w.heap.size w w1 := ((Below.refl w.heap.size w).alloc (Nat.le_refl _) _).trans (hB.mono (by simp))
  have hrel : OfRel w b 0 w1 := ⟨(World.ownsMap_made w _ _ _).kept (grown_of_below hB none) (by simp), hB0, hlt, hcell⟩
  have hb' : w.heap.size < b := by simp at hb; omega
  have HR := Lib.hid hrel
  clear hcell hB hrel hB0 hb
  go_wp2_with fail
  go_loopw [11] (fun i wr => ∃ k : Nat, k ≤ 43 ∧ i = .int .i64 k ∧ OfRel w b k wr) (fun i _ => 43 - (intOf i).toNat)
  case atStart => exact ⟨0, Nat.zero_le _, rfl, HR.out⟩
  case round =>
    obtain ⟨k, hk, rfl, hrel⟩ := hrel
    have HR := Lib.hid hrel
    clear hrel
    by_cases hlt : k < 43
    · obtain ⟨e, he⟩ : ∃ e, allE[k]? = some e := ⟨allE[k]'(by show k < 43; exact hlt), by simp⟩
      obtain ⟨e1, e2, e3⟩ := ent_ops he
      have HE := Lib.hid he
      have C := fun j u (hu : e.cells.toList[j]? = some u) => ents_cell HR.out.2.2.2 he hu
      obtain ⟨es, m, d, r0, r1, r2, id, has, com, op, fm, fd⟩ := e
      have c0 := C 0 _ rfl
      have c1 := C 1 _ rfl
      have c2 := C 2 _ rfl
      have c3 := C 3 _ rfl
      have c4 := C 4 _ rfl
      have c5 := C 5 _ rfl
      have c6 := C 6 _ rfl
      have c7 := C 7 _ rfl
      have c8 := C 8 _ rfl
      have c9 := C 9 _ rfl
      have c10 := C 10 _ rfl
      have c11 := C 11 _ rfl
      clear C he
      simp only at e1 e2 e3
      have hkey : keyOf Tryz.prog 9 (.string ⟨es.toArray⟩) = some (.string es) := by
        rw [keyOf_string_mk Tryz.underlying9 (show (ByteArray.mk es.toArray).size ≤ maxLen by unfold maxLen; simp [ByteArray.size]; omega)]
      have hbw := HR.out.2.2.1
      rw [Nat.add_zero] at c0
      cases fm <;> cases fd <;> simp only [FnV] at c10 c11
      all_goals
        go_wp2_with (at_mapUpdate; refine wpList_mapUpdate_own _ rfl _ _ _ 64 rfl 9 3 law_string Tryz.underlying64 _ w.heap.size k _ rfl (HR.out.1.alloc _) (by unfold maxLen; omega) _ _ _ rfl rfl hkey _ [] (plainElem_int Tryz.underlying3 (WalkArith.wf_i64 (by omega))) ?_)
        intro w2 hown hgrow
        have H2 := Lib.hid (of_next hb' HR.out HE.out hown hgrow)
        clear hown hgrow c0 c1 c2 c3 c4 c5 c6 c7 c8 c9 c10 c11 hbw
        go_wp2_with fail
        go_roundw
        case rel => exact ⟨k + 1, by omega, by go_num, H2.out⟩
        case measure => simp [intOf]; omega
    · obtain rfl : k = 43 := by omega
      have hat := putAll_at allE s.data.toList
      have HA := Lib.hid hat
      clear hat
      have e43 : allE.take 43 = allE := rfl
      have hown := HR.out.1
      rw [e43] at hown
      go_wp2_with (at_lookup; refine wpList_lookup_own_int _ rfl _ _ 64 rfl 9 3 .i64 law_string Tryz.underlying64 Tryz.underlying3 (zero_int _) w.heap.size 43 _ rfl hown _ _ rfl (keyOf_string_mk Tryz.underlying9 hs) ?_)
      intro c hat hwc
      rw [HA.out, findOp_is] at hat
      injection hat with hat
      injection hat with _ hat
      subst hat
      have HP := Lib.hid (primNo_pos s.data.toList)
      clear hown hwc e43
      go_wp2_with fail
      go_ret2
      exact ⟨ret_ib rfl HP.out, HR.out.2.1⟩
end Go.Proofs.YtboondbognbnnaaGreatDoor
