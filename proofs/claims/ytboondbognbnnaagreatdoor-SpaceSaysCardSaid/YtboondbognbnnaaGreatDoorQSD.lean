/- Go's library: a strings.Builder in a block of its own; WriteByte. Package show: digits, row. Package show: Flat of an array that may be. -/
import Derived.Test.YtboondbognbnnaaGreatDoorQQqA
import Derived.Test.YtboondbognbnnaaGreatDoorQSC
import Derived.Maps.AppendAt
import Derived.Test.YtboondbognbnnaaGreatDoorQSA
import Derived.Lib.ItoaLen
set_option linter.unusedVariables false
set_option linter.unusedSimpArgs false
namespace Go.Proofs.YtboondbognbnnaaGreatDoor
open Go.RowKit
namespace Bu
theorem size_builder : (Tryz.prog.info? 100).map (·.size) = some 2 := by kernel_rfl
theorem lies_writer : liesAt Tryz.prog Tryz.prog.depth 100 (2 / Tryz.prog.cellsOf 100) 0 100 1 = true := by kernel_rfl
theorem info_byte : (Tryz.prog.info? 5).map (fun i => (i.zero, i.size, i.bytes)) = some (some (.int .u8 0), 1, 1) := by kernel_rfl
theorem cells_byte : Tryz.prog.cellsOf 5 = 1 := by kernel_rfl
abbrev WT : TypeId := 100
abbrev ptr (b o : Nat) : Value := .pointer (some ⟨b, o, none⟩)
set_option maxRecDepth 100000 in
theorem check_used (b : Nat) (w : World) (h0 : w.cell? ⟨b, 0, none⟩ = some (ptr b 0)) : Calls Tryz.prog 72 #[ptr b 0] w fun e w' => e = .returned (.tuple #[]) ∧ w' = w := by
  obtain ⟨j, hj, _⟩ := Option.map_eq_some_iff.1 size_builder
  go_enter Tryz.func72, Tryz.ntmps72
  go_wp2
  rw [Lib.run_neq_ptr_same w _ Tryz.underlying97 hj]
  go_wp2
  go_end0
  exact ⟨rfl, rfl⟩
set_option maxRecDepth 100000 in
theorem check_fresh (b : Nat) (w : World) (h0 : w.cell? ⟨b, 0, none⟩ = some (.pointer none)) (hsh : w.shape? b = some (WT, 2)) (hfz : w.frozen? ⟨b, 0, none⟩ = false) :
    Calls Tryz.prog 72 #[ptr b 0] w fun e w' => e = .returned (.tuple #[]) ∧ w' = w.setCell ⟨b, 0, none⟩ (ptr b 0) := by
  obtain ⟨j, hj, hjs⟩ := Option.map_eq_some_iff.1 size_builder
  go_enter Tryz.func72, Tryz.ntmps72
  go_wp2
  rw [Lib.run_to_unsafe w ⟨b, 0, none⟩ Tryz.underlying97 Tryz.underlying170 hj (by rw [hjs]; decide) hsh (Nat.zero_lt_succ 1)]
  simp only [Result.andThen]
  rw [Oper.upon_value]
  go_wp2
  rw [run_callFunc_extern Tryz.func111 (by kernel_rfl) (by kernel_rfl) (by kernel_rfl) (e := Extern.AbiNoEscape.same) (by kernel_rfl)]
  rw [Lib.run_noEscape]
  simp only [Result.andThen]
  rw [Oper.upon_value]
  go_wp2
  rw [Lib.run_from_unsafe w ⟨b, 0, none⟩ Tryz.underlying170 Tryz.underlying97 hj hsh lies_writer]
  simp only [Result.andThen]
  rw [Oper.upon_value]
  go_wp2
  go_end0
  exact ⟨rfl, rfl⟩
/-- all but writers and rows of bytes stands as it did -/
def Other (w w' : World) : Prop := ∀ (k : Nat) (cs : Array Value) (ty : TypeId) (fr : Nat × Nat), w.heap[k]? = some (.cells cs ty fr) → ty ≠ WT → ty ≠ 5 → w'.heap[k]? = w.heap[k]?
theorem Other.refl (w : World) : Other w w := fun _ _ _ _ _ _ _ => rfl
theorem Other.trans {a b c : World} (h : Other a b) (k : Other b c) : Other a c := fun g cs ty fr e h1 h2 => (k g cs ty fr ((h g cs ty fr e h1 h2).trans e) h1 h2).trans (h g cs ty fr e h1 h2)
theorem Other.of_below {w w' : World} (h : Below w.heap.size w w') : Other w w' := fun g cs ty fr e _ _ => h.block g (by
  rcases Nat.lt_or_ge g w.heap.size with h' | h'
  · exact h'
  · simp [Array.getElem?_eq_none h'] at e)
theorem check_calls (B b : Nat) (bs : List Value) (w : World) (h : Lib.IsBuilder WT 5 B b bs w) :
    Calls Tryz.prog 72 #[ptr b 0] w fun e w' => e = .returned (.tuple #[]) ∧ Lib.BuilderAt WT 5 B b (ptr b 0) bs w' ∧ Below B w w' ∧ Other w w' := by
  rcases h with h | h
  · refine (check_fresh b w h.cell0 h.shape h.frozen0).mono ?_
    rintro e w' ⟨rfl, rfl⟩
    refine ⟨rfl, h.used _, (Below.refl B w).setCell (p := ⟨b, 0, none⟩) h.1 _, fun k cs ty fr e h1 h2 => Below.heap_setCell _ _ _ _ (fun e' => ?_)⟩
    obtain ⟨_, v, hb, _⟩ := h
    simp only at e'
    subst e'
    rw [hb] at e
    injection e with e
    injection e with _ e _
    exact h1 e.symm
  · refine (check_used b w h.cell0).mono ?_
    rintro e w' ⟨rfl, rfl⟩
    exact ⟨rfl, h, Below.refl _ _, Other.refl _⟩
theorem len_calls (B b : Nat) (bs : List Value) (w : World) (h : Lib.IsBuilder WT 5 B b bs w) : Calls Tryz.prog 115 #[ptr b 0] w fun e w' => e = .returned (.int .i64 bs.length) ∧ w' = w := by
  obtain ⟨p, hB, v, hbk, hown, hne⟩ : ∃ p, Lib.BuilderAt WT 5 B b p bs w := by
    rcases h with h | h
    · exact ⟨_, h⟩
    · exact ⟨_, h⟩
  obtain ⟨ao, cap, rfl⟩ : ∃ ao cap, v = .slice ao bs.length cap := by
    rcases hown.2 with ⟨hv, h0⟩ | ⟨g, cap, cur, hv, _⟩
    · exact ⟨none, 0, by rw [hv, h0]⟩
    · exact ⟨_, _, hv⟩
  have c1 : w.cell? ⟨b, 1, none⟩ = some (.slice ao bs.length cap) := by rw [Lib.cell_of_heap hbk]; rfl
  go_enter Tryz.func115, Tryz.ntmps115
  go_wp2
  go_ret
  exact ⟨rfl, rfl⟩
set_option maxRecDepth 100000 in
set_option maxHeartbeats 2000000 in
theorem write_calls (B b : Nat) (bs : List Value) (s : ByteArray) (w : World) (h : Lib.IsBuilder WT 5 B b bs w) (hlen : bs.length + s.size ≤ 140737488355328) (hBw : B ≤ w.heap.size) :
    Calls Tryz.prog 46 #[ptr b 0, .string s] w fun e w' => e = .returned (.tuple #[.int .i64 s.size, .nilIface]) ∧ Lib.BuilderAt WT 5 B b (ptr b 0) (bs ++ Lib.strCells s) w' ∧ Below B w w' ∧ Other w w' := by
  obtain ⟨i0, hi, hz0, hz1, hz2⟩ := info_parts info_byte
  go_enter Tryz.func46, Tryz.ntmps46
  go_wp2_with (go_at_call 72; refine (check_calls B b bs _ h).mono ?_)
  rintro e w1 ⟨rfl, h1, hb1, ho1⟩
  obtain ⟨hB, v, hbk, hown, hne⟩ := h1
  have c0 : w1.cell? ⟨b, 0, none⟩ = some (ptr b 0) := by rw [Lib.cell_of_heap hbk]; rfl
  have c1 : w1.cell? ⟨b, 1, none⟩ = some v := by rw [Lib.cell_of_heap hbk]; rfl
  go_wp2_with (at_builtin; refine Lib.wpList_append_own_string _ rfl _ _ 98 9 rfl B 5 i0 Tryz.underlying98 Tryz.underlying9 hi hz0 hz1 hz2 _ _ _ rfl hown s rfl ?c3 ?c4 ?c5 ?_)
  case c3 => unfold maxLen; omega
  case c4 => omega
  case c5 => have := hb1.size; omega
  intro v' w2 hown' hgrow _
  have hlt : b < w1.heap.size := by
    rcases Nat.lt_or_ge b w1.heap.size with h' | h'
    · exact h'
    · simp [Array.getElem?_eq_none h'] at hbk
  have hb2 : w2.heap[b]? = some (.cells #[ptr b 0, v] WT (0, 0)) := by
    rw [hgrow.block b hlt (fun e => hne e.symm)]
    exact hbk
  have d0 : w2.cell? ⟨b, 0, none⟩ = some (ptr b 0) := by rw [Lib.cell_of_heap hb2]; rfl
  have d1 : w2.cell? ⟨b, 1, none⟩ = some v := by rw [Lib.cell_of_heap hb2]; rfl
  have f1 : w2.frozen? ⟨b, 1, none⟩ = false := Lib.frozen_of_heap hb2 1
  obtain ⟨ao, n', cap, rfl⟩ : ∃ ao n' cap, v' = .slice ao n' cap := by
    rcases hown'.2 with ⟨hv, _⟩ | ⟨g, cap, cur, hv, _⟩
    · exact ⟨_, _, _, hv⟩
    · exact ⟨_, _, _, hv⟩
  go_wp2
  go_ret2
  refine ⟨rfl, ?_, ?_, ?_⟩
  · exact Lib.BuilderAt.put (T := WT) (e := 5) hB hb2 (bs' := bs ++ Lib.strCells s) (by simpa [Lib.strCells_length] using hown') (by decide)
  · exact (hb1.grown hgrow (by have := hb1.size; omega) (fun k hk => (hown.lt k hk).1)).setCell (p := ⟨b, 1, none⟩) hB _
  · refine ho1.trans fun k cs ty fr ek h1 h2 => ?_
    have hkl : k < w1.heap.size := by
      rcases Nat.lt_or_ge k w1.heap.size with h' | h'
      · exact h'
      · simp [Array.getElem?_eq_none h'] at ek
    have hkb : k ≠ b := by
      rintro rfl
      rw [hbk] at ek
      injection ek with ek
      injection ek with _ ek _
      exact h1 ek.symm
    have hkv : v.ownBlock ≠ some k := Lib.ownBlock_ne hown ek h2
    rw [Below.heap_setCell _ _ _ _ (fun e' => hkb e')]
    exact hgrow.block k hkl (fun e' => hkv e'.symm)
set_option maxRecDepth 100000 in
set_option maxHeartbeats 1000000 in
theorem string_calls (B b : Nat) (l : List UInt8) (w : World) (h : Lib.IsBuilder WT 5 B b (Lib.byteCells l) w) (h0 : l ≠ []) :
    Calls Tryz.prog 47 #[ptr b 0] w fun e w' => e = .returned (.string ⟨l.toArray⟩) ∧ Below B w w' := by
  obtain ⟨p, hB, v, hbk, hown, hne⟩ : ∃ p, Lib.BuilderAt WT 5 B b p (Lib.byteCells l) w := by
    rcases h with h | h
    · exact ⟨_, h⟩
    · exact ⟨_, h⟩
  have hl0 : l.length ≠ 0 := by simpa using h0
  rw [Lib.byteCells_length] at hown
  obtain ⟨g, cap, cur, rfl, hbg, hg, hnc, hcm, hcs, htake⟩ : ∃ g cap cur, v = .slice (some ⟨g, 0, none⟩) l.length cap ∧ B ≤ g ∧ w.heap[g]? = some (.cells cur 5 (0, 0)) ∧ l.length ≤ cap ∧ cap ≤ maxLen ∧ cur.size = cap * 1 ∧ cur.toList.take (l.length * 1) = Lib.byteCells l := by
    rcases hown.2 with ⟨_, hz⟩ | ⟨g, cap, cur, hv, r⟩
    · exact absurd hz hl0
    · exact ⟨g, cap, cur, hv, r⟩
  have c1 : w.drew.cell? ⟨b, 1, none⟩ = some (.slice (some ⟨g, 0, none⟩) l.length cap) := by
    have : w.drew.heap[b]? = some (.cells #[p, .slice (some ⟨g, 0, none⟩) l.length cap] WT (0, 0)) := hbk
    rw [Lib.cell_of_heap this]; rfl
  have hSD : (Builtin.unsafeSliceData_ #[98] 132 #[.slice (some ⟨g, 0, none⟩) l.length cap]).run Tryz.prog w.drew = .ok (.pointer (some ⟨g, 0, none⟩)) w.drew := Lib.run_unsafeSliceData_row _ _ _ _ _ _ (by omega)
  have hUS : (Builtin.unsafeString_ #[132, 3] 9 #[.pointer (some ⟨g, 0, none⟩), .int .i64 l.length]).run Tryz.prog w.drew = .ok (.string ⟨l.toArray⟩) (w.drew.freeze ⟨g, 0, none⟩ l.length) := by
    refine Lib.run_unsafeString_row w.drew 132 3 9 5 Tryz.underlying132 cells_byte g cur.size (by have hg' : w.drew.heap[g]? = some (.cells cur 5 (0, 0)) := hg; simp [World.shape?, hg']) l h0 (by omega) (by unfold maxLen at hcm; omega) ?_
    intro j x hx
    have := hown.cells (g := g) rfl j (.int .u8 x.toNat) (by simp [Lib.byteCells, hx])
    exact this
  go_enter Tryz.func47, Tryz.ntmps47
  go_wp2
  go_region
  all_goals (go_wp2; go_ret; exact ⟨rfl, Lib.below_freeze (Below.drew (Below.refl B w)) (p := ⟨g, 0, none⟩) hbg _⟩)
set_option maxRecDepth 100000 in
set_option maxHeartbeats 2000000 in
theorem byte_calls (B b : Nat) (bs : List Value) (c : Int) (w : World) (h : Lib.IsBuilder WT 5 B b bs w) (hlen : bs.length + 1 ≤ 140737488355328) (hBw : B ≤ w.heap.size) :
    Calls Tryz.prog 94 #[ptr b 0, .int .u8 c] w fun e w' => e = .returned .nilIface ∧ Lib.BuilderAt WT 5 B b (ptr b 0) (bs ++ [.int .u8 c]) w' ∧ Below B w w' := by
  obtain ⟨i0, hi, hz0, hz1, hz2⟩ := info_parts info_byte
  go_enter Tryz.func94, Tryz.ntmps94
  go_wp2_with (go_at_call 72; refine (check_calls B b bs _ h).mono ?_)
  rintro e w1 ⟨rfl, h1, hb1, ho1⟩
  obtain ⟨hB, v, hbk, hown, hne⟩ := h1
  have c0 : w1.cell? ⟨b, 0, none⟩ = some (ptr b 0) := by rw [Lib.cell_of_heap hbk]; rfl
  have c1 : w1.cell? ⟨b, 1, none⟩ = some v := by rw [Lib.cell_of_heap hbk]; rfl
  have hw1 := hb1.size
  go_wp2_with (at_builtin; refine wpList_append_own_at _ rfl _ _ 98 rfl B 5 i0 _ 1 1 Tryz.underlying98 hi hz0 hz1 hz2 rfl (by decide) _ _ _ rfl (hown.alloc _) ⟨w1.heap.size, 0, none⟩ 1 1 [.int .u8 c] rfl rfl ?c1 ?c2 ?c3 ?c4 ?c5 ?_)
  case c1 => exact row_new w1 #[.int .u8 c] _
  case c2 => intro u hu; simp only [List.mem_singleton] at hu; subst hu; rfl
  case c3 => unfold maxLen; omega
  case c4 => omega
  case c5 => simp; omega
  intro v' w2 hown' hgrow _ _
  have hlt : b < w1.heap.size := by
    rcases Nat.lt_or_ge b w1.heap.size with h' | h'
    · exact h'
    · simp [Array.getElem?_eq_none h'] at hbk
  have hb2 : w2.heap[b]? = some (.cells #[ptr b 0, v] WT (0, 0)) := by
    rw [hgrow.block b (by simp; omega) (fun e => hne e.symm)]
    exact ((Below.refl w1.heap.size w1).alloc (Nat.le_refl _) _).block b hlt |>.trans hbk
  have d0 : w2.cell? ⟨b, 0, none⟩ = some (ptr b 0) := by rw [Lib.cell_of_heap hb2]; rfl
  have d1 : w2.cell? ⟨b, 1, none⟩ = some v := by rw [Lib.cell_of_heap hb2]; rfl
  have f1 : w2.frozen? ⟨b, 1, none⟩ = false := Lib.frozen_of_heap hb2 1
  obtain ⟨ao, n', cap, rfl⟩ : ∃ ao n' cap, v' = .slice ao n' cap := by
    rcases hown'.2 with ⟨hv, _⟩ | ⟨g, cap, cur, hv, _⟩
    · exact ⟨_, _, _, hv⟩
    · exact ⟨_, _, _, hv⟩
  go_wp2
  go_ret
  refine ⟨rfl, ?_, ?_⟩
  · exact Lib.BuilderAt.put (T := WT) (e := 5) hB hb2 (bs' := bs ++ [.int .u8 c]) (by simpa using hown') (by decide)
  · exact ((hb1.alloc (by omega) _).grown hgrow (by simp; omega) (fun k hk => (hown.lt k hk).1)).setCell (p := ⟨b, 1, none⟩) hB _
end Bu
end Go.Proofs.YtboondbognbnnaaGreatDoor

namespace Go.Proofs.YtboondbognbnnaaGreatDoor
open Go.RowKit Go.Sort
set_option maxRecDepth 100000 in
theorem sdigits_calls (n : Int) (hn : Pz.inRange n = true) (w : World) (htab : Lib.TabIs Tryz.prog w "internal/strconv.uint64pow10" .u64 Lib.pow10Tab) :
    Calls Tryz.prog 95 #[.int .i64 n] w fun e w' => e = .returned (.string ⟨(Pp.dig n).toArray⟩) ∧ Below w.heap.size w w' := by
  simp only [Pz.inRange, Bool.and_eq_true, decide_eq_true_eq] at hn
  by_cases h0 : n < 0
  · obtain ⟨u, rfl⟩ : ∃ u : Nat, n = -(u : Int) := ⟨n.natAbs, by omega⟩
    have hwr : IntKind.u64.wrap (-IntKind.u64.wrap (-(u : Int))) = (u : Int) := by rw [IntKind.wrap_u64, IntKind.wrap_u64]; omega
    have hd : Pp.dig (-(u : Int)) = 95 :: Lib.decDigits u := by unfold Pp.dig; rw [if_pos h0, Int.natAbs_neg, Int.natAbs_natCast]
    have hlim : ¬ 9223372036854775807 < 1 + (Lib.decDigits u).length := by
      have := Lib.numDigits_eq u (by omega) (by omega)
      rw [Lib.decDigits_length]
      split at this <;> omega
    rw [hd]
    go_enter Tryz.func95, Tryz.ntmps95
    go_wp2_with (go_at_call 127; refine (fmtU_public u (by omega) _ htab).mono ?_; rintro e w' ⟨rfl, hb⟩)
    go_ret
    exact ⟨rfl, hb⟩
  · have hd : Pp.dig n = Lib.itoa n := by
      obtain ⟨u, rfl⟩ : ∃ u : Nat, n = u := ⟨n.toNat, by omega⟩
      rw [Lib.itoa_nonneg]; simp [Pp.dig]
    rw [hd]
    go_enter Tryz.func95, Tryz.ntmps95
    go_wp2_with (go_at_call 128; refine (fmtI_public n hn.1 hn.2 _ htab).mono ?_; rintro e w' ⟨rfl, hb⟩)
    go_ret
    exact ⟨rfl, hb⟩
theorem dig_size {v : Int} (h : Pz.inRange v = true) : (⟨(Pp.dig v).toArray⟩ : ByteArray).size ≤ 21 := by
  simp only [Pz.inRange, Bool.and_eq_true, decide_eq_true_eq] at h
  show (Pp.dig v).length ≤ 21
  unfold Pp.dig
  split
  · rw [List.length_cons, Lib.decDigits_length]
    have := Lib.nDigits_le20 v.natAbs (by omega)
    omega
  · rw [Lib.decDigits_length]
    have := Lib.nDigits_le20 v.toNat (by omega)
    omega
theorem dig_ne (v : Int) : Pp.dig v ≠ [] := by
  unfold Pp.dig
  split
  · simp
  · intro h
    have h1 := congrArg List.length h
    rw [Lib.decDigits_length] at h1
    rcases Nat.eq_zero_or_pos v.toNat with h0 | h0
    · rw [h0, Lib.nDigits_small (by omega)] at h1
      simp at h1
    · have h2 := Lib.lt_pow_nDigits v.toNat
      simp only [List.length_nil] at h1
      rw [h1] at h2
      simp at h2
      omega
/-- a row is answered: not too long -/
def RowPost (w : World) (e : Ending) (w' : World) : Prop := ∃ s : ByteArray, e = .returned (.string s) ∧ s.size ≤ 22 * 4096 ∧ Below w.heap.size w w'
def RowRel (w : World) (k : Nat) (wr : World) : Prop := Below w.heap.size w wr ∧ ∃ l : List UInt8, Lib.IsBuilder Bu.WT 5 w.heap.size w.heap.size (Lib.byteCells l) wr ∧ l.length ≤ 22 * k ∧ (k ≠ 0 → l ≠ [])
theorem row_start (w : World) : Lib.IsBuilder Bu.WT 5 w.heap.size w.heap.size (Lib.byteCells []) (w.alloc (.cells #[.pointer none, .slice none 0 0] 100)) :=
  .inl ⟨Nat.le_refl _, .slice none 0 0, heap_alloc_new w _, World.ownsRow_nil _ _ _ _, by simp [Value.ownBlock]⟩
theorem row_byte {B b : Nat} {l : List UInt8} {w : World} (h : Lib.BuilderAt Bu.WT 5 B b (ptr b 0) (Lib.byteCells l ++ [.int .u8 32]) w) : Lib.IsBuilder Bu.WT 5 B b (Lib.byteCells (l ++ [32])) w := .inr (by rw [byteCells_append]; exact h)
theorem row_str {B b : Nat} {l d : List UInt8} {w : World} (h : Lib.BuilderAt Bu.WT 5 B b (ptr b 0) (Lib.byteCells l ++ Lib.strCells ⟨d.toArray⟩) w) : Lib.BuilderAt Bu.WT 5 B b (ptr b 0) (Lib.byteCells (l ++ d)) w := by
  rw [Lib.strCells_toArray, ← byteCells_append] at h
  exact h
theorem builder_later {T e B b : Nat} {bs : List Value} {w w' : World} (h : Lib.IsBuilder T e B b bs w) (hb : Below w.heap.size w w') : Lib.IsBuilder T e B b bs w' := by
  have key : ∀ {p}, Lib.BuilderAt T e B b p bs w → Lib.BuilderAt T e B b p bs w' := by
    rintro p ⟨h1, v, h2, h3, h4⟩
    have hlt := (Array.getElem?_eq_some_iff.1 h2).1
    refine ⟨h1, v, (hb.block b hlt).trans h2, ⟨h3.1, ?_⟩, h4⟩
    rcases h3.2 with hn | ⟨g, cap, cur, rfl, hbg, hg, rest⟩
    · exact .inl hn
    · exact .inr ⟨g, cap, cur, rfl, hbg, (hb.block g (Array.getElem?_eq_some_iff.1 hg).1).trans hg, rest⟩
  rcases h with h | h
  · exact .inl (key h)
  · exact .inr (key h)
set_option maxRecDepth 100000 in
set_option maxHeartbeats 4000000 in
theorem row64_calls {B len cap : Nat} {A : Option Addr} {xs : List Int} {w : World} (h : Ints w B A len xs) (hl : len ≤ 4096) (h0 : 0 < len) (hr : ∀ v ∈ xs, Pz.inRange v = true) (hB : B ≤ w.heap.size) (hT : Tabs w.heap.size w) :
    Calls Tryz.prog 59 #[.slice A len cap] w (RowPost w) := by
  have H := Lib.hid h
  have HR := Lib.hid hr
  have HT := Lib.hid hT
  have hlen := h.1
  clear h hr hT
  have hb0 := (Below.refl w.heap.size w).alloc (Nat.le_refl _) (.cells #[.pointer none, .slice none 0 0] 100)
  have HI := Lib.hid (row_start w)
  have HB0 := Lib.hid hb0
  clear hb0
  unfold RowPost
  go_enter Tryz.func59, Tryz.ntmps59
  go_upto_region 2 with fail
  generalize w.alloc _ = w0 at HI HB0
  have h00 : (0 : Int) ≤ (len : Int) := Int.natCast_nonneg _
  go_wp2_with fail
  go_loopw [8] (fun i wr => ∃ k : Nat, k ≤ len ∧ i = .int .i64 k ∧ RowRel w k wr) (fun i _ => len - (intOf i).toNat)
  case atStart => exact ⟨0, Nat.zero_le _, rfl, HB0.out, [], HI.out, by simp, fun h => absurd rfl h⟩
  case round =>
    obtain ⟨k, hk, rfl, hbw, l, hI, hll, hne⟩ := hrel
    have HB := Lib.hid hbw
    have HBI := Lib.hid hI
    have HLL := Lib.hid hll
    have HNE := Lib.hid hne
    clear hbw hI hll hne
    have k0 : (0 : Int) ≤ (k : Int) := Int.natCast_nonneg _
    by_cases hlt : k < len
    · have k1 : (k : Int) < (len : Int) := Int.ofNat_lt.2 hlt
      have hw : wrap64 ((k : Int) + 1) = ((k + 1 : Nat) : Int) := wrap_succ (by omega)
      obtain ⟨v, hv⟩ : ∃ v, xs[k]? = some v := ⟨xs[k]'(by omega), by simp⟩
      obtain ⟨b1, o1, rfl, hb1, hc1⟩ := ints_cell (H.out.keep (Keeps.of_below HB.out hB)) hv
      have HV := Lib.hid (HR.out v (List.mem_of_getElem? hv))
      have hvr : IntKind.i64.wrap v = v := by
        have := HV.out
        simp only [Pz.inRange, Bool.and_eq_true, decide_eq_true_eq] at this
        rw [IntKind.wrap_i64]; omega
      clear hv hb1
      by_cases hk0 : (0 : Int) < (k : Int)
      · go_wp2_with (first
          | (go_at_call 94; refine (Bu.byte_calls w.heap.size w.heap.size (Lib.byteCells l) 32 _ HBI.out (by rw [Lib.byteCells_length]; have := HLL.out; omega) HB.out.size).mono ?_; rintro e wa ⟨rfl, hIa, hba⟩; have HBa := Lib.hid (HB.out.trans hba); have HIa := Lib.hid (row_byte hIa); clear hIa hba hc1)
          | (go_at_call 95; refine (sdigits_calls v HV.out _ (HT.out _ HBa.out)).mono ?_; rintro e wb ⟨rfl, hbb⟩; have HBb := Lib.hid (HBa.out.trans (hbb.mono HBa.out.size)); have HIb := Lib.hid (builder_later HIa.out hbb); clear hbb)
          | (go_at_call 46; refine (Bu.write_calls w.heap.size w.heap.size (Lib.byteCells (l ++ [32])) _ _ HIb.out (by rw [Lib.byteCells_length, List.length_append]; have := HLL.out; have := dig_size HV.out; simp only [List.length_singleton]; omega) HBb.out.size).mono ?_; rintro e wc ⟨rfl, hIc, hbc, _⟩; have HBc := Lib.hid (HBb.out.trans hbc); have HIc := Lib.hid (row_str hIc); clear hIc hbc))
        go_roundw
        case rel => exact ⟨k + 1, hlt, by go_num, HBc.out, _, .inr HIc.out, by have := HLL.out; have := dig_size HV.out; simp only [List.length_append, List.length_singleton]; simp only [ByteArray.size, List.size_toArray] at this; omega, fun _ => by simp⟩
        case measure => exact sm_meas (by first | exact Int.lt_succ _ | (rw [hw]; exact Int.lt_succ _)) k0 k1
      · go_wp2_with (first
          | (go_at_call 95; refine (sdigits_calls v HV.out _ (HT.out _ HB.out)).mono ?_; rintro e wb ⟨rfl, hbb⟩; have HBb := Lib.hid (HB.out.trans (hbb.mono HB.out.size)); have HIb := Lib.hid (builder_later HBI.out hbb); clear hbb hc1)
          | (go_at_call 46; refine (Bu.write_calls w.heap.size w.heap.size (Lib.byteCells l) _ _ HIb.out (by rw [Lib.byteCells_length]; have := HLL.out; have := dig_size HV.out; omega) HBb.out.size).mono ?_; rintro e wc ⟨rfl, hIc, hbc, _⟩; have HBc := Lib.hid (HBb.out.trans hbc); have HIc := Lib.hid (row_str hIc); clear hIc hbc))
        go_roundw
        case rel => exact ⟨k + 1, hlt, by go_num, HBc.out, _, .inr HIc.out, by have := HLL.out; have := dig_size HV.out; simp only [List.length_append]; simp only [ByteArray.size, List.size_toArray] at this; omega, fun _ => by have := dig_ne v; simp [this]⟩
        case measure => exact sm_meas (by first | exact Int.lt_succ _ | (rw [hw]; exact Int.lt_succ _)) k0 k1
    · have k1 : ¬ (k : Int) < (len : Int) := by omega
      go_wp2_with (go_at_call 47; refine (Bu.string_calls w.heap.size w.heap.size l _ HBI.out (HNE.out (by omega))).mono ?_; rintro e wd ⟨rfl, hbd⟩; have HBd := Lib.hid (HB.out.trans hbd); clear hbd)
      go_ret
      exact ⟨_, rfl, by show l.length ≤ _; have := HLL.out; omega, HBd.out⟩
set_option maxRecDepth 100000 in
set_option maxHeartbeats 4000000 in
theorem rowI_calls {B len cap : Nat} {A : Option Addr} {xs : List Int} {w : World} (h : Ints w B A len xs) (hl : len ≤ 4096) (h0 : 0 < len) (hr : ∀ v ∈ xs, Pz.inRange v = true) (hB : B ≤ w.heap.size) (hT : Tabs w.heap.size w) :
    Calls Tryz.prog 60 #[.slice A len cap] w (RowPost w) := by
  have H := Lib.hid h
  have HR := Lib.hid hr
  have HT := Lib.hid hT
  have hlen := h.1
  clear h hr hT
  have hb0 := (Below.refl w.heap.size w).alloc (Nat.le_refl _) (.cells #[.pointer none, .slice none 0 0] 100)
  have HI := Lib.hid (row_start w)
  have HB0 := Lib.hid hb0
  clear hb0
  unfold RowPost
  go_enter Tryz.func60, Tryz.ntmps60
  go_upto_region 2 with fail
  generalize w.alloc _ = w0 at HI HB0
  have h00 : (0 : Int) ≤ (len : Int) := Int.natCast_nonneg _
  go_wp2_with fail
  go_loopw [8] (fun i wr => ∃ k : Nat, k ≤ len ∧ i = .int .i64 k ∧ RowRel w k wr) (fun i _ => len - (intOf i).toNat)
  case atStart => exact ⟨0, Nat.zero_le _, rfl, HB0.out, [], HI.out, by simp, fun h => absurd rfl h⟩
  case round =>
    obtain ⟨k, hk, rfl, hbw, l, hI, hll, hne⟩ := hrel
    have HB := Lib.hid hbw
    have HBI := Lib.hid hI
    have HLL := Lib.hid hll
    have HNE := Lib.hid hne
    clear hbw hI hll hne
    have k0 : (0 : Int) ≤ (k : Int) := Int.natCast_nonneg _
    by_cases hlt : k < len
    · have k1 : (k : Int) < (len : Int) := Int.ofNat_lt.2 hlt
      have hw : wrap64 ((k : Int) + 1) = ((k + 1 : Nat) : Int) := wrap_succ (by omega)
      obtain ⟨v, hv⟩ : ∃ v, xs[k]? = some v := ⟨xs[k]'(by omega), by simp⟩
      obtain ⟨b1, o1, rfl, hb1, hc1⟩ := ints_cell (H.out.keep (Keeps.of_below HB.out hB)) hv
      have HV := Lib.hid (HR.out v (List.mem_of_getElem? hv))
      have hvr : IntKind.i64.wrap v = v := by
        have := HV.out
        simp only [Pz.inRange, Bool.and_eq_true, decide_eq_true_eq] at this
        rw [IntKind.wrap_i64]; omega
      clear hv hb1
      by_cases hk0 : (0 : Int) < (k : Int)
      · go_wp2_with (first
          | (go_at_call 94; refine (Bu.byte_calls w.heap.size w.heap.size (Lib.byteCells l) 32 _ HBI.out (by rw [Lib.byteCells_length]; have := HLL.out; omega) HB.out.size).mono ?_; rintro e wa ⟨rfl, hIa, hba⟩; have HBa := Lib.hid (HB.out.trans hba); have HIa := Lib.hid (row_byte hIa); clear hIa hba hc1)
          | (go_at_call 95; refine (sdigits_calls v HV.out _ (HT.out _ HBa.out)).mono ?_; rintro e wb ⟨rfl, hbb⟩; have HBb := Lib.hid (HBa.out.trans (hbb.mono HBa.out.size)); have HIb := Lib.hid (builder_later HIa.out hbb); clear hbb)
          | (go_at_call 46; refine (Bu.write_calls w.heap.size w.heap.size (Lib.byteCells (l ++ [32])) _ _ HIb.out (by rw [Lib.byteCells_length, List.length_append]; have := HLL.out; have := dig_size HV.out; simp only [List.length_singleton]; omega) HBb.out.size).mono ?_; rintro e wc ⟨rfl, hIc, hbc, _⟩; have HBc := Lib.hid (HBb.out.trans hbc); have HIc := Lib.hid (row_str hIc); clear hIc hbc))
        go_roundw
        case rel => exact ⟨k + 1, hlt, by go_num, HBc.out, _, .inr HIc.out, by have := HLL.out; have := dig_size HV.out; simp only [List.length_append, List.length_singleton]; simp only [ByteArray.size, List.size_toArray] at this; omega, fun _ => by simp⟩
        case measure => exact sm_meas (by first | exact Int.lt_succ _ | (rw [hw]; exact Int.lt_succ _)) k0 k1
      · go_wp2_with (first
          | (go_at_call 95; refine (sdigits_calls v HV.out _ (HT.out _ HB.out)).mono ?_; rintro e wb ⟨rfl, hbb⟩; have HBb := Lib.hid (HB.out.trans (hbb.mono HB.out.size)); have HIb := Lib.hid (builder_later HBI.out hbb); clear hbb hc1)
          | (go_at_call 46; refine (Bu.write_calls w.heap.size w.heap.size (Lib.byteCells l) _ _ HIb.out (by rw [Lib.byteCells_length]; have := HLL.out; have := dig_size HV.out; omega) HBb.out.size).mono ?_; rintro e wc ⟨rfl, hIc, hbc, _⟩; have HBc := Lib.hid (HBb.out.trans hbc); have HIc := Lib.hid (row_str hIc); clear hIc hbc))
        go_roundw
        case rel => exact ⟨k + 1, hlt, by go_num, HBc.out, _, .inr HIc.out, by have := HLL.out; have := dig_size HV.out; simp only [List.length_append]; simp only [ByteArray.size, List.size_toArray] at this; omega, fun _ => by have := dig_ne v; simp [this]⟩
        case measure => exact sm_meas (by first | exact Int.lt_succ _ | (rw [hw]; exact Int.lt_succ _)) k0 k1
    · have k1 : ¬ (k : Int) < (len : Int) := by omega
      go_wp2_with (go_at_call 47; refine (Bu.string_calls w.heap.size w.heap.size l _ HBI.out (HNE.out (by omega))).mono ?_; rintro e wd ⟨rfl, hbd⟩; have HBd := Lib.hid (HB.out.trans hbd); clear hbd)
      go_ret
      exact ⟨_, rfl, by show l.length ≤ _; have := HLL.out; omega, HBd.out⟩
end Go.Proofs.YtboondbognbnnaaGreatDoor

namespace Go.Proofs.YtboondbognbnnaaGreatDoor
open Go.RowKit
def FlatPost (w : World) (e : Ending) (w' : World) : Prop := ∃ s : ByteArray, e = .returned (.tuple #[.string s, .int .i64 0]) ∧ s.size ≤ 1000000 ∧ Below w.heap.size w w'
theorem cat_one {s : ByteArray} (hs : s.size ≤ 22 * 4096) : (s ++ (⟨#[32, 36]⟩ : ByteArray)).size ≤ 1000000 := by
  rw [ByteArray.size_append]
  exact Nat.le_trans (Nat.add_le_add hs (show (⟨#[32, 36]⟩ : ByteArray).size ≤ 2 from Nat.le_refl _)) (by decide)
theorem cat_two {s u : ByteArray} (hs : s.size ≤ 22 * 4096) (hu : u.size ≤ 22 * 4096) : (s ++ (⟨#[32, 36]⟩ : ByteArray) ++ ((⟨#[32]⟩ : ByteArray) ++ u)).size ≤ 1000000 := by
  rw [ByteArray.size_append, ByteArray.size_append, ByteArray.size_append]
  exact Nat.le_trans (Nat.add_le_add (Nat.add_le_add hs (show (⟨#[32, 36]⟩ : ByteArray).size ≤ 2 from Nat.le_refl _)) (Nat.add_le_add (show (⟨#[32]⟩ : ByteArray).size ≤ 1 from Nat.le_refl _) hu)) (by decide)
set_option maxRecDepth 100000 in
set_option maxHeartbeats 4000000 in
theorem flat_calls {B : Nat} {sh a : List Int} {x : AV} {w : World} (hx : ARep w B sh a x) (hs : x.sl ≤ 17592186044416) (hm : amay sh a.length = 0) (hrs : ∀ v ∈ sh, Pz.inRange v = true) (hra : ∀ v ∈ a, Pz.inRange v = true) (hB : B ≤ w.heap.size) (hT : Tabs w.heap.size w) :
    Calls Tryz.prog 35 #[x.val] w (FlatPost w) := by
  have hb0 := (Below.refl w.heap.size w).alloc (Nat.le_refl _) (.cells x.cells 26)
  have hX := Boxd.new w x.cells 26
  have hz := amay_zero hm
  have hal : a.length = x.al := hx.a.1
  have hsl : sh.length = x.sl := hx.s.1
  have h1 : x.sl = 0 → x.al = 1 := fun h0 => by
    have : sh = [] := List.eq_nil_of_length_eq_zero (by omega)
    subst this
    unfold amay at hm
    split at hm
    · cases hm
    · rename_i hc
      have hc : ¬ (cntF 1 [] ≠ (a.length : Int)) := fun h => hc ⟨rfl, h⟩
      simp only [cntF, ne_eq, Decidable.not_not] at hc
      omega
  have C0 := Lib.hid (fun W (h : Below w.heap.size w W) => amay_calls (hx.keep (Keeps.of_below h hB)) hs (Nat.le_trans hB h.size))
  have C1 := Lib.hid (fun W (h : Below w.heap.size w W) (h0 : 0 < x.sl) => rowI_calls (cap := x.sc) (hx.s.keep (Keeps.of_below h hB)) (by omega) h0 hrs (Nat.le_trans hB h.size) (hT.up h h.size))
  have C2 := Lib.hid (fun W (h : Below w.heap.size w W) (h0 : 0 < x.al) => row64_calls (cap := x.ac) (hx.a.keep (Keeps.of_below h hB)) (by omega) h0 hra (Nat.le_trans hB h.size) (hT.up h h.size))
  rw [hm] at C0
  have HB0 := Lib.hid hb0
  have HX := Lib.hid hX
  clear hb0 hX hx hs hm hrs hra hT
  obtain ⟨xsa, xsl, xsc, xaa, xal, xac⟩ := x
  unfold AV.cells at HX HB0
  simp only at HX HB0 C0 C1 C2 hal hsl h1
  have hz1 : xal ≤ 4096 := by omega
  have hz2 : xsl ≤ 8 := by omega
  clear hz hal hsl
  unfold AV.val AV.cells at C0 ⊢
  simp only at C0
  unfold RowPost at C1 C2
  unfold FlatPost
  go_enter Tryz.func35, Tryz.ntmps35
  go_upto_region 1 with fail
  generalize w.alloc _ = w0 at HX HB0
  obtain ⟨c0, c1⟩ := HX.out.two
  go_upto_region 3 with (go_at_call 16; refine (C0.out _ HB0.out).mono ?_; rintro e w1 ⟨rfl, hb1⟩; have HB1 := Lib.hid (HB0.out.trans (hb1.mono HB0.out.size)); have X1 := Lib.hid (HX.out.later hb1); clear hb1 c0 c1)
  obtain ⟨c0, c1⟩ := X1.out.two
  by_cases hA : xsl = 0
  · obtain rfl : xal = 1 := h1 hA
    subst hA
    go_wp2_with (go_at_call 59; refine (C2.out _ HB1.out (by decide)).mono ?_; rintro e w2 ⟨s, rfl, hs, hb2⟩; have HB2 := Lib.hid (HB1.out.trans (hb2.mono HB1.out.size)))
    go_ret2
    exact ⟨s, rfl, by omega, HB2.out⟩
  have e0 : ((xsl : Int) == 0) = false := by simp; omega
  by_cases hBB : xsl = 1 ∧ 1 < xal
  · obtain ⟨rfl, hB2⟩ := hBB
    have e2 : decide ((1 : Int) < (xal : Int)) = true := by simp; omega
    go_wp2_with (go_at_call 59; refine (C2.out _ HB1.out (by omega)).mono ?_; rintro e w2 ⟨s, rfl, hs, hb2⟩; have HB2 := Lib.hid (HB1.out.trans (hb2.mono HB1.out.size)))
    go_ret2
    exact ⟨s, rfl, by omega, HB2.out⟩
  have key : (((xsl : Int) == 1) = false) ∨ (xsl = 1 ∧ decide ((1 : Int) < (xal : Int)) = false) := by
    by_cases h : xsl = 1
    · exact .inr ⟨h, by simp; omega⟩
    · exact .inl (by simp; omega)
  clear hBB h1
  by_cases hal : 0 < xal
  · have e4 : (0 : Int) < (xal : Int) := by omega
    rcases key with k1 | ⟨k1, k2⟩
    all_goals
      try subst k1
      go_wp2_with (first
        | (go_at_call 60; refine (C1.out _ HB1.out (by omega)).mono ?_; rintro e w2 ⟨s, rfl, hs, hb2⟩; have HB2 := Lib.hid (HB1.out.trans (hb2.mono HB1.out.size)); have X2 := Lib.hid (X1.out.later hb2); clear hb2 c0 c1; obtain ⟨c0, c1⟩ := X2.out.two; have hlim : ¬ 9223372036854775807 < s.size + 2 := by omega)
        | (go_at_call 59; refine (C2.out _ HB2.out hal).mono ?_; rintro e w3 ⟨u, rfl, hu, hb3⟩; have HB3 := Lib.hid (HB2.out.trans (hb3.mono HB2.out.size)); clear hb3 c0 c1; have hlim2 : ¬ 9223372036854775807 < 1 + u.size := by omega))
      go_ret2
      exact ⟨_, rfl, cat_two hs hu, HB3.out⟩
  · have e4 : ¬ (0 : Int) < (xal : Int) := by omega
    rcases key with k1 | ⟨k1, k2⟩
    all_goals
      try subst k1
      go_wp2_with (go_at_call 60; refine (C1.out _ HB1.out (by omega)).mono ?_; rintro e w2 ⟨s, rfl, hs, hb2⟩; have HB2 := Lib.hid (HB1.out.trans (hb2.mono HB1.out.size)); have X2 := Lib.hid (X1.out.later hb2); clear hb2 c0 c1; obtain ⟨c0, c1⟩ := X2.out.two; have hlim : ¬ 9223372036854775807 < s.size + 2 := by omega)
      go_ret2
      exact ⟨_, rfl, cat_one hs, HB2.out⟩
end Go.Proofs.YtboondbognbnnaaGreatDoor
