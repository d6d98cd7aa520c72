/- Package prim: the rows. -/
import Derived.Test.YtnnhbpgpkpbinaaGreatPrim1
import Derived.Great.BuildSlice
namespace Go.Proofs.YtnnhbpgpkpbinaaGreat
open Go.RowKit

structure Ent where
  s : List UInt8
  m : Bool
  d : Bool
  r0 : Int
  r1 : Int
  r2 : Int
  id : Int
  has : Bool
  com : Bool
  op : Int
  fm : Option Nat
  fd : Option Nat
def Ent.cells (e : Ent) : Array Value := entryOf ⟨e.s.toArray⟩ e.m e.d e.r0 e.r1 e.r2 e.id e.has e.com e.op (FnV e.fm) (FnV e.fd)
def entCells (l : List Ent) : List Value := l.flatMap fun e => e.cells.toList
def sumsE : List Ent := [
  ⟨[43], true, true, 0, 0, 0, 0, true, true, 1, some 92, some 93⟩,
  ⟨[45], true, true, 0, 0, 0, 0, true, false, 2, some 92, some 93⟩,
  ⟨[42], true, true, 0, 0, 0, 1, true, true, 3, some 92, some 93⟩,
  ⟨[37], false, true, 0, 0, 0, 1, true, false, 4, none, some 93⟩,
  ⟨[124], true, true, 0, 0, 0, 0, true, false, 5, some 92, some 93⟩,
  ⟨[60, 46], true, true, 0, 0, 0, 9223372036854775807, true, true, 6, some 92, some 93⟩,
  ⟨[62, 46], true, true, 0, 0, 0, (-9223372036854775808), true, true, 7, some 92, some 93⟩,
  ⟨[60], false, true, 0, 0, 0, 0, true, false, 8, none, some 93⟩,
  ⟨[62], false, true, 0, 0, 0, 0, true, false, 9, none, some 93⟩,
  ⟨[61], true, true, 64, 0, 0, 1, true, true, 10, some 97, some 93⟩,
  ⟨[126, 58], true, true, 64, 0, 0, 0, true, true, 11, some 97, some 93⟩,
  ⟨[60, 58], true, true, 0, 0, 0, 1, true, false, 12, some 92, some 93⟩,
  ⟨[62, 58], true, true, 0, 0, 0, 1, true, false, 13, some 92, some 93⟩,
  ⟨[43, 46], false, true, 0, 0, 0, 0, true, true, 14, none, some 93⟩,
  ⟨[42, 46], false, true, 0, 0, 0, 1, true, true, 15, none, some 93⟩,
  ⟨[43, 58], true, true, 0, 0, 0, 0, false, true, 16, some 92, some 93⟩,
  ⟨[42, 58], true, true, 0, 0, 0, 0, false, true, 17, some 92, some 93⟩,
  ⟨[45, 46], true, true, 0, 64, 64, 0, false, false, 18, some 92, some 98⟩,
  ⟨[45, 58], true, true, 0, 64, 64, 0, false, true, 19, some 92, some 98⟩,
  ⟨[94], false, true, 0, 0, 0, 1, true, false, 20, none, some 93⟩,
  ⟨[33], true, true, 0, 0, 0, 1, true, false, 21, some 92, some 93⟩]
def othersE : List Ent := [
  ⟨[35], true, true, 64, 1, 64, 0, false, false, 22, some 99, some 101⟩,
  ⟨[36], true, true, 64, 1, 64, 0, false, false, 23, some 99, some 100⟩,
  ⟨[44], true, true, 64, 64, 64, 0, false, false, 24, some 99, some 100⟩,
  ⟨[44, 46], true, true, 64, 64, 64, 0, false, false, 25, some 99, some 100⟩,
  ⟨[44, 58], true, true, 64, 64, 64, 0, false, false, 26, some 99, some 100⟩,
  ⟨[123], false, true, 0, 0, 64, 0, false, false, 27, none, some 98⟩,
  ⟨[123, 46], true, true, 64, 1, 64, 0, false, false, 28, some 99, some 100⟩,
  ⟨[125, 46], true, true, 64, 1, 64, 0, false, false, 29, some 99, some 100⟩,
  ⟨[123, 58], true, false, 64, 0, 0, 0, false, false, 30, some 99, none⟩,
  ⟨[125, 58], true, false, 64, 0, 0, 0, false, false, 31, some 99, none⟩,
  ⟨[124, 46], true, true, 64, 1, 64, 0, false, false, 32, some 99, some 100⟩,
  ⟨[124, 58], true, true, 64, 1, 64, 0, false, false, 33, some 99, some 100⟩,
  ⟨[105, 46], true, true, 1, 64, 64, 0, false, false, 34, some 102, some 98⟩,
  ⟨[101, 46], false, true, 0, 64, 64, 0, false, false, 35, none, some 98⟩,
  ⟨[126, 46], true, false, 64, 0, 0, 0, false, false, 36, some 97, none⟩,
  ⟨[47, 58], true, true, 64, 64, 64, 0, false, false, 37, some 97, some 98⟩,
  ⟨[92, 58], true, true, 64, 64, 64, 0, false, false, 38, some 97, some 98⟩,
  ⟨[35, 46], true, true, 1, 1, 1, 0, false, false, 39, some 102, some 101⟩,
  ⟨[35, 58], true, true, 64, 1, 0, 0, false, false, 40, some 102, some 101⟩,
  ⟨[91], true, true, 64, 64, 64, 0, false, false, 41, some 99, some 100⟩,
  ⟨[93], true, true, 64, 64, 64, 0, false, false, 42, some 99, some 100⟩,
  ⟨[73, 46], true, false, 1, 0, 0, 0, false, false, 43, some 102, none⟩]

/-- what a row-maker hands back: a row of its own -/
def RowsPost (l : List Ent) (w : World) (e : Ending) (w' : World) : Prop :=
  ∃ b, e = .returned (.slice (some ⟨b, 0, none⟩) l.length l.length) ∧ w.heap.size ≤ b ∧ w'.heap[b]? = some (.cells (entCells l).toArray 104 (0, 0)) ∧ Below w.heap.size w w' ∧ b < w'.heap.size
theorem heap_new (w : World) (o : Obj) : (w.alloc o).heap[w.heap.size]? = some o := by
  show (w.heap.push o)[w.heap.size]? = some o
  simp
def zeroEnt : Array Value := entryOf ⟨#[]⟩ false false 0 0 0 0 false false 0 .nilFunc .nilFunc
theorem info_ent0 : (Tryz.prog.info? 104).map (fun i => (i.zero.map (·.cells), i.size)) = some (some zeroEnt, 12) := by kernel_rfl
theorem info_ent : ∃ ie z, Tryz.prog.info? 104 = some ie ∧ ie.zero = some z ∧ ie.size = 12 ∧ z.cells = zeroEnt := by
  have h := info_ent0
  cases hi : Tryz.prog.info? 104 with
  | none => rw [hi] at h; cases h
  | some ie =>
    rw [hi] at h
    cases hz : ie.zero with
    | none => simp [hz] at h
    | some z => simp [hz] at h; exact ⟨ie, z, rfl, hz, h.2, h.1⟩

set_option maxRecDepth 100000 in
set_option maxHeartbeats 4000000 in
theorem sums_calls (w : World) : Calls Tryz.prog 90 #[] w (RowsPost sumsE w) := by
  have hB := Below.refl w.heap.size w
  have hle := Nat.le_refl w.heap.size
  go_enter Tryz.func90, Tryz.ntmps90
  go_wp2_with (first
    | (go_at_call 94; (with_reducible refine (made_rel hB hle (by first | exact isFn_nil | exact isFn_func _) (by first | exact isFn_nil | exact isFn_func _)).mono ?_); clear hB hle; rintro e w1 ⟨rfl, hB, hle⟩)
    | (go_at_call 95; (with_reducible refine (with_rel hB hle (by first | exact isFn_nil | exact isFn_func _) (by first | exact isFn_nil | exact isFn_func _)).mono ?_); clear hB hle; rintro e w1 ⟨rfl, hB, hle⟩)
    | (go_at_call 96; (with_reducible refine (both_rel hB hle (by first | exact isFn_nil | exact isFn_func _) (by first | exact isFn_nil | exact isFn_func _)).mono ?_); clear hB hle; rintro e w1 ⟨rfl, hB, hle⟩))
  obtain ⟨ie, z, h1, h2, h3, h4⟩ := info_ent
  refine wp_buildSlice 96 104 21 _ rfl (entCells sumsE).toArray ie z (by kernel_rfl) h1 h2 (by rw [h3]; decide) (by rw [h3]; decide) ?_ ?_
  · rw [h3, h4]
    kernel_rfl
  · go_wp2_with fail
    go_ret
    exact ⟨w1.heap.size, rfl, hle, heap_new _ _, hB.alloc hle _, by simp⟩

set_option maxRecDepth 100000 in
set_option maxHeartbeats 4000000 in
theorem others_calls (w : World) : Calls Tryz.prog 91 #[] w (RowsPost othersE w) := by
  have hB := Below.refl w.heap.size w
  have hle := Nat.le_refl w.heap.size
  go_enter Tryz.func91, Tryz.ntmps91
  go_wp2_with (first
    | (go_at_call 94; (with_reducible refine (made_rel hB hle (by first | exact isFn_nil | exact isFn_func _) (by first | exact isFn_nil | exact isFn_func _)).mono ?_); clear hB hle; rintro e w1 ⟨rfl, hB, hle⟩)
    | (go_at_call 95; (with_reducible refine (with_rel hB hle (by first | exact isFn_nil | exact isFn_func _) (by first | exact isFn_nil | exact isFn_func _)).mono ?_); clear hB hle; rintro e w1 ⟨rfl, hB, hle⟩)
    | (go_at_call 96; (with_reducible refine (both_rel hB hle (by first | exact isFn_nil | exact isFn_func _) (by first | exact isFn_nil | exact isFn_func _)).mono ?_); clear hB hle; rintro e w1 ⟨rfl, hB, hle⟩))
  obtain ⟨ie, z, h1, h2, h3, h4⟩ := info_ent
  refine wp_buildSlice 96 104 22 _ rfl (entCells othersE).toArray ie z (by kernel_rfl) h1 h2 (by rw [h3]; decide) (by rw [h3]; decide) ?_ ?_
  · rw [h3, h4]
    kernel_rfl
  · go_wp2_with fail
    go_ret
    exact ⟨w1.heap.size, rfl, hle, heap_new _ _, hB.alloc hle _, by simp⟩

end Go.Proofs.YtnnhbpgpkpbinaaGreat
