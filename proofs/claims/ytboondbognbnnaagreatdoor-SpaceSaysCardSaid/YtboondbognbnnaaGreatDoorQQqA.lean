/- Go's library at a writer: a strings.Builder that lies at the head of package print's own struct. Go's library: numbers as decimal numerals. Package print: a writer, and put. -/
import Derived.Test.YtboondbognbnnaaGreatDoorQPureA
import Derived.Test.YtboondbognbnnaaGreatDoorQShelf
import Derived.Test.YtboondbognbnnaaGreatDoorQPpA
import Derived.Lib.AppendIntMem
import Derived.Test.YtboondbognbnnaaGreatDoorQPpC
import Derived.WalkSmall
set_option linter.unusedVariables false
set_option linter.unusedSimpArgs false
namespace Go.Proofs.YtboondbognbnnaaGreatDoor
open Go.RowKit
theorem size_builder : (Tryz.prog.info? 100).map (·.size) = some 2 := by kernel_rfl
theorem lies_writer : liesAt Tryz.prog Tryz.prog.depth 141 (2 / Tryz.prog.cellsOf 141) 0 100 1 = true := by kernel_rfl
theorem info_byte : (Tryz.prog.info? 5).map (fun i => (i.zero, i.size, i.bytes)) = some (some (.int .u8 0), 1, 1) := by kernel_rfl
theorem cells_byte : Tryz.prog.cellsOf 5 = 1 := by kernel_rfl
abbrev WT : TypeId := 141
abbrev ptr (b o : Nat) : Value := .pointer (some ⟨b, o, none⟩)
set_option maxRecDepth 100000 in
theorem check_used (b : Nat) (w : World) (h0 : w.cell? ⟨b, 0, none⟩ = some (ptr b 0)) : Calls Tryz.prog 72 #[ptr b 0] w fun e w' => e = .returned (.tuple #[]) ∧ w' = w := by
  obtain ⟨j, hj, _⟩ := Option.map_eq_some_iff.1 size_builder
  go_enter Tryz.func72, Tryz.ntmps72
  go_wp2
  rw [Lib.run_neq_ptr_same w _ Tryz.underlying97 hj]
  go_wp2
  go_end0
  exact ⟨rfl, rfl⟩
set_option maxRecDepth 100000 in
theorem check_fresh (b : Nat) (w : World) (h0 : w.cell? ⟨b, 0, none⟩ = some (.pointer none)) (hsh : w.shape? b = some (WT, 2)) (hfz : w.frozen? ⟨b, 0, none⟩ = false) :
    Calls Tryz.prog 72 #[ptr b 0] w fun e w' => e = .returned (.tuple #[]) ∧ w' = w.setCell ⟨b, 0, none⟩ (ptr b 0) := by
  obtain ⟨j, hj, hjs⟩ := Option.map_eq_some_iff.1 size_builder
  go_enter Tryz.func72, Tryz.ntmps72
  go_wp2
  rw [Lib.run_to_unsafe w ⟨b, 0, none⟩ Tryz.underlying97 Tryz.underlying170 hj (by rw [hjs]; decide) hsh (Nat.zero_lt_succ 1)]
  simp only [Result.andThen]
  rw [Oper.upon_value]
  go_wp2
  rw [run_callFunc_extern Tryz.func111 (by kernel_rfl) (by kernel_rfl) (by kernel_rfl) (e := Extern.AbiNoEscape.same) (by kernel_rfl)]
  rw [Lib.run_noEscape]
  simp only [Result.andThen]
  rw [Oper.upon_value]
  go_wp2
  rw [Lib.run_from_unsafe w ⟨b, 0, none⟩ Tryz.underlying170 Tryz.underlying97 hj hsh lies_writer]
  simp only [Result.andThen]
  rw [Oper.upon_value]
  go_wp2
  go_end0
  exact ⟨rfl, rfl⟩
/-- all but writers and rows of bytes stands as it did -/
def Other (w w' : World) : Prop := ∀ (k : Nat) (cs : Array Value) (ty : TypeId) (fr : Nat × Nat), w.heap[k]? = some (.cells cs ty fr) → ty ≠ WT → ty ≠ 5 → w'.heap[k]? = w.heap[k]?
theorem Other.refl (w : World) : Other w w := fun _ _ _ _ _ _ _ => rfl
theorem Other.trans {a b c : World} (h : Other a b) (k : Other b c) : Other a c := fun g cs ty fr e h1 h2 => (k g cs ty fr ((h g cs ty fr e h1 h2).trans e) h1 h2).trans (h g cs ty fr e h1 h2)
theorem Other.of_below {w w' : World} (h : Below w.heap.size w w') : Other w w' := fun g cs ty fr e _ _ => h.block g (by
  rcases Nat.lt_or_ge g w.heap.size with h' | h'
  · exact h'
  · simp [Array.getElem?_eq_none h'] at e)
theorem check_calls (B b : Nat) (bs : List Value) (w : World) (h : Lib.IsBuilder WT 5 B b bs w) :
    Calls Tryz.prog 72 #[ptr b 0] w fun e w' => e = .returned (.tuple #[]) ∧ Lib.BuilderAt WT 5 B b (ptr b 0) bs w' ∧ Below B w w' ∧ Other w w' := by
  rcases h with h | h
  · refine (check_fresh b w h.cell0 h.shape h.frozen0).mono ?_
    rintro e w' ⟨rfl, rfl⟩
    refine ⟨rfl, h.used _, (Below.refl B w).setCell (p := ⟨b, 0, none⟩) h.1 _, fun k cs ty fr e h1 h2 => Below.heap_setCell _ _ _ _ (fun e' => ?_)⟩
    obtain ⟨_, v, hb, _⟩ := h
    simp only at e'
    subst e'
    rw [hb] at e
    injection e with e
    injection e with _ e _
    exact h1 e.symm
  · refine (check_used b w h.cell0).mono ?_
    rintro e w' ⟨rfl, rfl⟩
    exact ⟨rfl, h, Below.refl _ _, Other.refl _⟩
theorem len_calls (B b : Nat) (bs : List Value) (w : World) (h : Lib.IsBuilder WT 5 B b bs w) : Calls Tryz.prog 115 #[ptr b 0] w fun e w' => e = .returned (.int .i64 bs.length) ∧ w' = w := by
  obtain ⟨p, hB, v, hbk, hown, hne⟩ : ∃ p, Lib.BuilderAt WT 5 B b p bs w := by
    rcases h with h | h
    · exact ⟨_, h⟩
    · exact ⟨_, h⟩
  obtain ⟨ao, cap, rfl⟩ : ∃ ao cap, v = .slice ao bs.length cap := by
    rcases hown.2 with ⟨hv, h0⟩ | ⟨g, cap, cur, hv, _⟩
    · exact ⟨none, 0, by rw [hv, h0]⟩
    · exact ⟨_, _, hv⟩
  have c1 : w.cell? ⟨b, 1, none⟩ = some (.slice ao bs.length cap) := by rw [Lib.cell_of_heap hbk]; rfl
  go_enter Tryz.func115, Tryz.ntmps115
  go_wp2
  go_ret
  exact ⟨rfl, rfl⟩
set_option maxRecDepth 100000 in
set_option maxHeartbeats 2000000 in
theorem write_calls (B b : Nat) (bs : List Value) (s : ByteArray) (w : World) (h : Lib.IsBuilder WT 5 B b bs w) (hlen : bs.length + s.size ≤ 140737488355328) (hBw : B ≤ w.heap.size) :
    Calls Tryz.prog 46 #[ptr b 0, .string s] w fun e w' => e = .returned (.tuple #[.int .i64 s.size, .nilIface]) ∧ Lib.BuilderAt WT 5 B b (ptr b 0) (bs ++ Lib.strCells s) w' ∧ Below B w w' ∧ Other w w' := by
  obtain ⟨i0, hi, hz0, hz1, hz2⟩ := info_parts info_byte
  go_enter Tryz.func46, Tryz.ntmps46
  go_wp2_with (go_at_call 72; refine (check_calls B b bs _ h).mono ?_)
  rintro e w1 ⟨rfl, h1, hb1, ho1⟩
  obtain ⟨hB, v, hbk, hown, hne⟩ := h1
  have c0 : w1.cell? ⟨b, 0, none⟩ = some (ptr b 0) := by rw [Lib.cell_of_heap hbk]; rfl
  have c1 : w1.cell? ⟨b, 1, none⟩ = some v := by rw [Lib.cell_of_heap hbk]; rfl
  go_wp2_with (at_builtin; refine Lib.wpList_append_own_string _ rfl _ _ 98 9 rfl B 5 i0 Tryz.underlying98 Tryz.underlying9 hi hz0 hz1 hz2 _ _ _ rfl hown s rfl ?c3 ?c4 ?c5 ?_)
  case c3 => unfold maxLen; omega
  case c4 => omega
  case c5 => have := hb1.size; omega
  intro v' w2 hown' hgrow _
  have hlt : b < w1.heap.size := by
    rcases Nat.lt_or_ge b w1.heap.size with h' | h'
    · exact h'
    · simp [Array.getElem?_eq_none h'] at hbk
  have hb2 : w2.heap[b]? = some (.cells #[ptr b 0, v] WT (0, 0)) := by
    rw [hgrow.block b hlt (fun e => hne e.symm)]
    exact hbk
  have d0 : w2.cell? ⟨b, 0, none⟩ = some (ptr b 0) := by rw [Lib.cell_of_heap hb2]; rfl
  have d1 : w2.cell? ⟨b, 1, none⟩ = some v := by rw [Lib.cell_of_heap hb2]; rfl
  have f1 : w2.frozen? ⟨b, 1, none⟩ = false := Lib.frozen_of_heap hb2 1
  obtain ⟨ao, n', cap, rfl⟩ : ∃ ao n' cap, v' = .slice ao n' cap := by
    rcases hown'.2 with ⟨hv, _⟩ | ⟨g, cap, cur, hv, _⟩
    · exact ⟨_, _, _, hv⟩
    · exact ⟨_, _, _, hv⟩
  go_wp2
  go_ret2
  refine ⟨rfl, ?_, ?_, ?_⟩
  · exact Lib.BuilderAt.put (T := WT) (e := 5) hB hb2 (bs' := bs ++ Lib.strCells s) (by simpa [Lib.strCells_length] using hown') (by decide)
  · exact (hb1.grown hgrow (by have := hb1.size; omega) (fun k hk => (hown.lt k hk).1)).setCell (p := ⟨b, 1, none⟩) hB _
  · refine ho1.trans fun k cs ty fr ek h1 h2 => ?_
    have hkl : k < w1.heap.size := by
      rcases Nat.lt_or_ge k w1.heap.size with h' | h'
      · exact h'
      · simp [Array.getElem?_eq_none h'] at ek
    have hkb : k ≠ b := by
      rintro rfl
      rw [hbk] at ek
      injection ek with ek
      injection ek with _ ek _
      exact h1 ek.symm
    have hkv : v.ownBlock ≠ some k := Lib.ownBlock_ne hown ek h2
    rw [Below.heap_setCell _ _ _ _ (fun e' => hkb e')]
    exact hgrow.block k hkl (fun e' => hkv e'.symm)
set_option maxRecDepth 100000 in
set_option maxHeartbeats 1000000 in
theorem string_calls (B b : Nat) (l : List UInt8) (w : World) (h : Lib.IsBuilder WT 5 B b (Lib.byteCells l) w) (h0 : l ≠ []) :
    Calls Tryz.prog 47 #[ptr b 0] w fun e w' => e = .returned (.string ⟨l.toArray⟩) ∧ Below B w w' := by
  obtain ⟨p, hB, v, hbk, hown, hne⟩ : ∃ p, Lib.BuilderAt WT 5 B b p (Lib.byteCells l) w := by
    rcases h with h | h
    · exact ⟨_, h⟩
    · exact ⟨_, h⟩
  have hl0 : l.length ≠ 0 := by simpa using h0
  rw [Lib.byteCells_length] at hown
  obtain ⟨g, cap, cur, rfl, hbg, hg, hnc, hcm, hcs, htake⟩ : ∃ g cap cur, v = .slice (some ⟨g, 0, none⟩) l.length cap ∧ B ≤ g ∧ w.heap[g]? = some (.cells cur 5 (0, 0)) ∧ l.length ≤ cap ∧ cap ≤ maxLen ∧ cur.size = cap * 1 ∧ cur.toList.take (l.length * 1) = Lib.byteCells l := by
    rcases hown.2 with ⟨_, hz⟩ | ⟨g, cap, cur, hv, r⟩
    · exact absurd hz hl0
    · exact ⟨g, cap, cur, hv, r⟩
  have c1 : w.drew.cell? ⟨b, 1, none⟩ = some (.slice (some ⟨g, 0, none⟩) l.length cap) := by
    have : w.drew.heap[b]? = some (.cells #[p, .slice (some ⟨g, 0, none⟩) l.length cap] WT (0, 0)) := hbk
    rw [Lib.cell_of_heap this]; rfl
  have hSD : (Builtin.unsafeSliceData_ #[98] 132 #[.slice (some ⟨g, 0, none⟩) l.length cap]).run Tryz.prog w.drew = .ok (.pointer (some ⟨g, 0, none⟩)) w.drew := Lib.run_unsafeSliceData_row _ _ _ _ _ _ (by omega)
  have hUS : (Builtin.unsafeString_ #[132, 3] 9 #[.pointer (some ⟨g, 0, none⟩), .int .i64 l.length]).run Tryz.prog w.drew = .ok (.string ⟨l.toArray⟩) (w.drew.freeze ⟨g, 0, none⟩ l.length) := by
    refine Lib.run_unsafeString_row w.drew 132 3 9 5 Tryz.underlying132 cells_byte g cur.size (by have hg' : w.drew.heap[g]? = some (.cells cur 5 (0, 0)) := hg; simp [World.shape?, hg']) l h0 (by omega) (by unfold maxLen at hcm; omega) ?_
    intro j x hx
    have := hown.cells (g := g) rfl j (.int .u8 x.toNat) (by simp [Lib.byteCells, hx])
    exact this
  go_enter Tryz.func47, Tryz.ntmps47
  go_wp2
  go_region
  all_goals (go_wp2; go_ret; exact ⟨rfl, Lib.below_freeze (Below.drew (Below.refl B w)) (p := ⟨g, 0, none⟩) hbg _⟩)
end Go.Proofs.YtboondbognbnnaaGreatDoor

namespace Go.Proofs.YtboondbognbnnaaGreatDoor
open Go.RowKit Go.Sort
theorem below_grow (w : World) (k : Nat) (os : Array Obj) : Below w.heap.size w (grow (w.drewN k) os) := by
  have h : Below w.heap.size (w.drewN k) (grow (w.drewN k) os) := ⟨rfl, rfl, rfl, by simp [grow], fun b hb => Lib.heap_grow_old w k os b hb⟩
  exact (below_drewN (Below.refl _ w) k).trans h
set_option maxRecDepth 100000 in
set_option maxHeartbeats 4000000 in
theorem fmtU (u : Nat) (hu64 : u < 18446744073709551616) (w : World) (htab : Lib.TabIs Tryz.prog w "internal/strconv.uint64pow10" .u64 Lib.pow10Tab) :
    Calls Tryz.prog 147 #[.int .u64 u, .int .i64 10] w fun e w' => e = .returned (.string ⟨(Lib.decDigits u).toArray⟩) ∧ Below w.heap.size w w' := by
  by_cases hs : u < 100
  · have hs' : (u : Int) < 100 := by omega
    have hwr : IntKind.i64.wrap (u : Int) = (u : Int) := by rw [IntKind.wrap_i64]; omega
    go_enter Tryz.func147, Tryz.ntmps147
    go_wp2_with (go_at_call 171; refine (Tryz.internal_strconv_small u hs _).mono ?_; rintro e w' ⟨rfl, rfl⟩)
    go_ret
    exact ⟨rfl, Below.refl _ _⟩
  · have hu1 : 1 ≤ u := by omega
    have hs' : ¬ (u : Int) < 100 := by omega
    have hnd20 : Lib.nDigits u ≤ 20 := by have := Lib.numDigits_eq u hu1 hu64; split at this <;> omega
    have hal : Tryz.prog.arrayLen 224 = 24 := by simp [Program.arrayLen, Tryz.underlying224]
    have hsl1 : ∀ W, (Instr.sliceAt 224 (.pointer (some ⟨w.heap.size, 0, none⟩)) none (some (.int .i64 (Lib.nDigits u : Int))) none).run Tryz.prog W = .ok (.slice (some ⟨w.heap.size, 0, none⟩) (Lib.nDigits u) 24) W := fun W => by
      rw [run_sliceAt_array_h W 224 ⟨w.heap.size, 0, none⟩ (by simp [Program.arrayLen, Program.elem, Tryz.underlying224]) .i64 (Lib.nDigits u : Int) (by omega) (by rw [hal]; omega)]
      go_simp
    have hH0 := Lib.holds_zero0 w 224 (Lib.nDigits u) (by omega)
    have hfmt := Tryz.internal_strconv_formatBase10 w.heap.size 0 24 u (Array.replicate (Lib.nDigits u) 0) (w.alloc (.cells Lib.zeros24 224)) hH0 (by rw [Array.size_replicate]; exact Lib.lt_pow_nDigits u) hu64 (by rw [Array.size_replicate]; omega)
    rw [Array.size_replicate] at hfmt
    have HH0 := Lib.hid hH0
    clear hH0 hal
    go_enter Tryz.func147, Tryz.ntmps147
    go_wp2_with (first
      | (go_at_call 172; refine (Tryz.internal_strconv_numDigits u hu1 hu64 _ (Lib.tabIs_alloc htab _)).mono ?_; rintro e w' ⟨rfl, rfl⟩))
    go_at_call 173
    refine hfmt.mono ?_
    rintro e w' ⟨rfl, k, v', dk, rfl, hF⟩
    have hcv : (convert 98 9 (.slice (some ⟨w.heap.size, 0, none⟩) (Lib.nDigits u) 24)).run Tryz.prog ((putRow (fun (b : UInt8) => Value.int .u8 (b.toNat : Int)) (w.alloc (.cells Lib.zeros24 224)) w.heap.size 0 dk).drewN k) = .ok (.string ⟨(Lib.decDigits u).toArray⟩) ((putRow (fun (b : UInt8) => Value.int .u8 (b.toNat : Int)) (w.alloc (.cells Lib.zeros24 224)) w.heap.size 0 dk).drewN k) := by
      have h := run_convert_bytes_back (P := Tryz.prog) ((putRow (fun (b : UInt8) => Value.int .u8 (b.toNat : Int)) (w.alloc (.cells Lib.zeros24 224)) w.heap.size 0 dk).drewN k) 98 9 5 ⟨w.heap.size, 0, none⟩ 24 (Lib.decDigits u) Tryz.underlying98 Tryz.underlying5 Tryz.underlying9 (fun j hj => by
        rw [Lib.row_is_numeral hF j hj, Lib.add_plain, World.cell?_drewN]
        exact cell?_putRow (fun (b : UInt8) => Value.int .u8 (b.toNat : Int)) _ w.heap.size 0 _ dk HH0.out (by rw [hF.size, Array.size_replicate]) j (by rw [hF.size]; rw [Lib.decDigits_length] at hj; exact hj))
      rw [Lib.decDigits_length] at h
      exact h
    go_wp2
    go_ret
    obtain ⟨os, eo⟩ := Lib.fin_at w (.cells Lib.zeros24 224) dk k 0
    exact ⟨rfl, eo ▸ below_grow w k os⟩
set_option maxRecDepth 100000 in
theorem fmtU_public (u : Nat) (hu64 : u < 18446744073709551616) (w : World) (htab : Lib.TabIs Tryz.prog w "internal/strconv.uint64pow10" .u64 Lib.pow10Tab) :
    Calls Tryz.prog 127 #[.int .u64 u, .int .i64 10] w fun e w' => e = .returned (.string ⟨(Lib.decDigits u).toArray⟩) ∧ Below w.heap.size w w' := by
  go_enter Tryz.func127, Tryz.ntmps127
  go_wp2_with (go_at_call 147; refine (fmtU u hu64 _ htab).mono ?_; rintro e w' ⟨rfl, hb⟩)
  go_ret
  exact ⟨rfl, hb⟩
set_option maxRecDepth 100000 in
theorem fmtI_public (n : Int) (h0 : -9223372036854775808 ≤ n) (h1 : n ≤ 9223372036854775807) (w : World) (htab : Lib.TabIs Tryz.prog w "internal/strconv.uint64pow10" .u64 Lib.pow10Tab) :
    Calls Tryz.prog 128 #[.int .i64 n, .int .i64 10] w fun e w' => e = .returned (.string ⟨(Lib.itoa n).toArray⟩) ∧ Below w.heap.size w w' := by
  go_enter Tryz.func128, Tryz.ntmps128
  go_wp2_with (go_at_call 148; refine (Tryz.internal_strconv_FormatInt_10 n h0 h1 _ htab).mono ?_; rintro e w' ⟨rfl, k, os, rfl⟩)
  go_ret
  exact ⟨rfl, below_grow w k os⟩
set_option maxRecDepth 100000 in
theorem digits_calls (n : Int) (hn : Pz.inRange n = true) (w : World) (htab : Lib.TabIs Tryz.prog w "internal/strconv.uint64pow10" .u64 Lib.pow10Tab) :
    Calls Tryz.prog 121 #[.int .i64 n] w fun e w' => e = .returned (.string ⟨(Pp.dig n).toArray⟩) ∧ Below w.heap.size w w' := by
  simp only [Pz.inRange, Bool.and_eq_true, decide_eq_true_eq] at hn
  by_cases h0 : n < 0
  · obtain ⟨u, rfl⟩ : ∃ u : Nat, n = -(u : Int) := ⟨n.natAbs, by omega⟩
    have hwr : IntKind.u64.wrap (-IntKind.u64.wrap (-(u : Int))) = (u : Int) := by rw [IntKind.wrap_u64, IntKind.wrap_u64]; omega
    have hd : Pp.dig (-(u : Int)) = 95 :: Lib.decDigits u := by unfold Pp.dig; rw [if_pos h0, Int.natAbs_neg, Int.natAbs_natCast]
    have hlim : ¬ 9223372036854775807 < 1 + (Lib.decDigits u).length := by
      have := Lib.numDigits_eq u (by omega) (by omega)
      rw [Lib.decDigits_length]
      split at this <;> omega
    rw [hd]
    go_enter Tryz.func121, Tryz.ntmps121
    go_wp2_with (go_at_call 127; refine (fmtU_public u (by omega) _ htab).mono ?_; rintro e w' ⟨rfl, hb⟩)
    go_ret
    exact ⟨rfl, hb⟩
  · have hd : Pp.dig n = Lib.itoa n := by
      obtain ⟨u, rfl⟩ : ∃ u : Nat, n = u := ⟨n.toNat, by omega⟩
      rw [Lib.itoa_nonneg]; simp [Pp.dig]
    rw [hd]
    go_enter Tryz.func121, Tryz.ntmps121
    go_wp2_with (go_at_call 128; refine (fmtI_public n hn.1 hn.2 _ htab).mono ?_; rintro e w' ⟨rfl, hb⟩)
    go_ret
    exact ⟨rfl, hb⟩
end Go.Proofs.YtboondbognbnnaaGreatDoor

namespace Go.Proofs.YtboondbognbnnaaGreatDoor
open Go.RowKit
def Wr (B b : Nat) (l : List UInt8) (w : World) : Prop := Lib.IsBuilder WT 5 B b (Lib.byteCells l) w
def tooE : PanicEntry := { v := .iface 138 (.agg #[]), recovered := false }
/-- panics that no Goexit stands behind -/
def Calm (ps : List PanicEntry) : Prop := ∀ p ∈ ps, p.goexit = false
/-- what is told when out is put behind l -/
structure Puts (B b : Nat) (l out : List UInt8) (w : World) (e : Ending) (w' : World) : Prop where
  below : Below B w w'
  other : Other w w'
  ends : (l.length + out.length ≤ 1048576 ∧ e = .returned (.tuple #[]) ∧ Wr B b (l ++ out) w') ∨ (1048576 < l.length + out.length ∧ ∃ ps l', e = .panicked (tooE :: ps) ∧ l'.length ≤ 1048576 ∧ Wr B b l' w' ∧ Calm ps)
theorem Puts.fits {B b : Nat} {l out : List UInt8} {w w' : World} {e : Ending} (h : Puts B b l out w e w') (hf : l.length + out.length ≤ 1048576) : e = .returned (.tuple #[]) ∧ Wr B b (l ++ out) w' := by
  rcases h.ends with h | h
  · exact h.2
  · exact absurd h.1 (by omega)
theorem Puts.falls {B b : Nat} {l out : List UInt8} {w w' : World} {e : Ending} (h : Puts B b l out w e w') (hf : 1048576 < l.length + out.length) : ∃ ps l', e = .panicked (tooE :: ps) ∧ l'.length ≤ 1048576 ∧ Wr B b l' w' ∧ Calm ps := by
  rcases h.ends with h | h
  · exact absurd h.1 (by omega)
  · exact h.2
def cat : List ByteArray → List UInt8
  | [] => []
  | s :: r => s.data.toList ++ cat r
theorem cat_take {ss : List ByteArray} {k : Nat} {s : ByteArray} (h : ss[k]? = some s) : cat (ss.take (k + 1)) = cat (ss.take k) ++ s.data.toList := by
  induction ss generalizing k with
  | nil => simp at h
  | cons a r ih =>
    cases k with
    | zero => simp at h; subst h; simp [cat]
    | succ k => simp only [List.take_succ_cons, cat, List.append_assoc]; rw [ih (by simpa using h)]
theorem cat_take_le (ss : List ByteArray) (k : Nat) : (cat (ss.take k)).length ≤ (cat ss).length := by
  induction ss generalizing k with
  | nil => simp
  | cons a r ih =>
    cases k with
    | zero => simp [cat]
    | succ k => simp only [List.take_succ_cons, cat, List.length_append]; have := ih k; omega
theorem str_cells (s : ByteArray) : Lib.strCells s = Lib.byteCells s.data.toList := by
  simp [Lib.strCells, Lib.byteCells]
theorem byteCells_append (a b : List UInt8) : Lib.byteCells (a ++ b) = Lib.byteCells a ++ Lib.byteCells b := by simp [Lib.byteCells]
/-- a row of strings, ahead of the loop -/
def SRow (g : Nat) (ss : List ByteArray) (w : World) : Prop := ∃ cs, w.heap[g]? = some (.cells cs 9 (0, 0)) ∧ ∀ (i : Nat) (s : ByteArray), ss[i]? = some s → cs[i]? = some (.string s)
theorem SRow.cell {g : Nat} {ss : List ByteArray} {w : World} (h : SRow g ss w) {i : Nat} {s : ByteArray} (hi : ss[i]? = some s) : w.cell? ⟨g, i, none⟩ = some (.string s) := by
  obtain ⟨cs, h1, h2⟩ := h
  rw [Lib.cell_of_heap h1]; exact h2 i s hi
theorem SRow.other {g : Nat} {ss : List ByteArray} {w w' : World} (h : SRow g ss w) (ho : Other w w') : SRow g ss w' := by
  obtain ⟨cs, h1, h2⟩ := h
  exact ⟨cs, (ho g cs _ _ h1 (by decide) (by decide)).trans h1, h2⟩
structure PutRel (B b g : Nat) (l : List UInt8) (ss : List ByteArray) (w : World) (k : Nat) (w1 : World) : Prop where
  below : Below B w w1
  other : Other w w1
  box : Wr B b (l ++ cat (ss.take k)) w1
  row : SRow g ss w1
  le : (l ++ cat (ss.take k)).length ≤ 1048576
theorem PutRel.next {B b g k : Nat} {l : List UInt8} {ss : List ByteArray} {s : ByteArray} {w w1 w2 : World} (h : PutRel B b g l ss w k w1) (hs : ss[k]? = some s) (hf : (l ++ cat (ss.take k)).length + s.size ≤ 1048576)
    (h1 : Lib.BuilderAt WT 5 B b (ptr b 0) (Lib.byteCells (l ++ cat (ss.take k)) ++ Lib.strCells s) w2) (h2 : Below B w1 w2) (h3 : Other w1 w2) : PutRel B b g l ss w (k + 1) w2 := by
  refine ⟨h.below.trans h2, h.other.trans h3, ?_, h.row.other h3, ?_⟩
  · rw [cat_take hs, ← List.append_assoc]
    rw [str_cells, ← byteCells_append] at h1
    exact .inr h1
  · rw [cat_take hs, ← List.append_assoc, List.length_append]
    exact hf
theorem PutRel.fall {B b g k : Nat} {l : List UInt8} {ss : List ByteArray} {s : ByteArray} {w w1 : World} (h : PutRel B b g l ss w k w1) (hs : ss[k]? = some s) (hf : 1048576 < (l ++ cat (ss.take k)).length + s.size) : Puts B b l (cat ss) w (.panicked [tooE]) w1 := by
  refine ⟨h.below, h.other, .inr ⟨?_, [], _, rfl, h.le, h.box, fun _ hp => by cases hp⟩⟩
  have := cat_take_le ss (k + 1)
  rw [cat_take hs, List.length_append] at this
  rw [List.length_append] at hf
  have e : s.data.toList.length = s.size := Array.length_toList
  omega
theorem PutRel.done {B b g n : Nat} {l : List UInt8} {ss : List ByteArray} {w w1 : World} (h : PutRel B b g l ss w n w1) (hn : ss.length = n) : Puts B b l (cat ss) w (.returned (.tuple #[])) w1 := by
  have e : ss.take n = ss := by rw [← hn]; simp
  have h1 := h.box
  have h2 := h.le
  rw [e] at h1 h2
  rw [List.length_append] at h2
  exact ⟨h.below, h.other, .inl ⟨h2, rfl, h1⟩⟩
theorem sp_meas {L : Nat} {a b : Int} (h : b < a) (h0 : 0 ≤ b) (hL : b < (L : Int)) : L - (intOf (.int .i64 a)).toNat < L - (intOf (.int .i64 b)).toNat := by simp only [intOf]; omega
theorem len_is {B b m : Nat} {l : List UInt8} {w : World} (h : Wr B b l w) (hm : l.length = m) : Calls Tryz.prog 115 #[ptr b 0] w fun e w' => e = .returned (.int .i64 m) ∧ w' = w := by
  have := len_calls B b _ w h
  rw [Lib.byteCells_length, hm] at this
  exact this
set_option maxRecDepth 100000 in
set_option maxHeartbeats 4000000 in
theorem put_both (B b g n cap : Nat) (l : List UInt8) (ss : List ByteArray) (w : World) (hn : ss.length = n) (hB : B ≤ w.heap.size) (hW : Wr B b l w) (hl : l.length ≤ 1048576) (hS : SRow g ss w) (hs : ∀ s ∈ ss, s.size ≤ 140737488355328 - 1048576) (hnn : n ≤ 2) :
    Calls Tryz.prog 78 #[ptr b 0, .slice (some ⟨g, 0, none⟩) n cap] w (Puts B b l (cat ss) w) ∧ ∀ u, CallsD Tryz.prog 78 #[ptr b 0, .slice (some ⟨g, 0, none⟩) n cap] u w (fun e u' w' => u' = u ∧ Puts B b l (cat ss) w e w') := by
  have H0 := Lib.hid (⟨Below.refl _ _, Other.refl _, by simpa [cat] using hW, hS, by simpa [cat] using hl⟩ : PutRel B b g l ss w 0 w)
  have HB := Lib.hid hB
  have HN := Lib.hid hn
  have HS := Lib.hid hs
  have HNN := Lib.hid hnn
  clear hW hl hS hs hB hnn
  refine ⟨?_, fun u => ?_⟩
  · go_enter Tryz.func78, Tryz.ntmps78
    go_wp2_with fail
    go_loopw [8] (fun i wr => ∃ k : Nat, k ≤ n ∧ i = .int .i64 k ∧ PutRel B b g l ss w k wr) (fun i _ => n - (intOf i).toNat)
    case atStart => exact ⟨0, Nat.zero_le _, rfl, H0.out⟩
    case round =>
      obtain ⟨k, hk, rfl, hr⟩ := hrel
      have HR := Lib.hid hr
      by_cases hlt : k < n
      · obtain ⟨s, hs⟩ : ∃ s, ss[k]? = some s := ⟨ss[k]'(by rw [hn]; exact hlt), by simp⟩
        have c0 := hr.row.cell hs
        have HK := Lib.hid hs
        obtain ⟨m, hm⟩ : ∃ m, (l ++ cat (ss.take k)).length = m := ⟨_, rfl⟩
        have hm1 : m ≤ 1048576 := hm ▸ hr.le
        have hsz : s.size ≤ 140737488355328 - 1048576 := HS.out s (List.mem_of_getElem? hs)
        have HM := Lib.hid hm
        have hw1 : IntKind.i64.wrap ((m : Int) + (s.size : Int)) = (m : Int) + (s.size : Int) := by rw [IntKind.wrap_i64]; omega
        have HL := Lib.hid (show (Lib.byteCells (l ++ cat (ss.take k))).length + s.size ≤ 140737488355328 from by rw [Lib.byteCells_length, hm]; omega)
        by_cases hf : m + s.size ≤ 1048576
        · have hgt : ¬ (1048576 : Int) < (m : Int) + (s.size : Int) := by omega
          have HF := Lib.hid (show (l ++ cat (ss.take k)).length + s.size ≤ 1048576 from by rw [hm]; exact hf)
          have HT := Lib.hid hlt
          have HW := Lib.hid (show wrap64 ((k : Int) + 1) = (k : Int) + 1 from by have := HNN.out; unfold wrap64; omega)
          have hw64 := HW.out
          clear hr hs hm hm1 hsz hf hlt
          go_wp2_with (first
            | (go_at_call 115; refine (len_is HR.out.box HM.out).mono ?_; rintro e w' ⟨rfl, rfl⟩)
            | (go_at_call 46; refine (write_calls B b _ s _ HR.out.box HL.out (Nat.le_trans HB.out HR.out.below.size)).mono ?_; rintro e w' ⟨rfl, h1, h2, h3⟩; have HN' := Lib.hid (HR.out.next HK.out HF.out h1 h2 h3); clear h1 h2 h3))
          go_roundw
          case rel => exact ⟨k + 1, HT.out, by go_num, HN'.out⟩
          case measure => exact sp_meas (by rw [HW.out]; exact Int.lt_succ _) (Int.natCast_nonneg _) (Int.ofNat_lt.2 HT.out)
        · have hgt : (1048576 : Int) < (m : Int) + (s.size : Int) := by omega
          have HF := Lib.hid (show 1048576 < (l ++ cat (ss.take k)).length + s.size from by rw [hm]; omega)
          clear hr hs hm hm1 hsz hf
          go_wp2_with (first
            | (go_at_call 115; refine (len_is HR.out.box HM.out).mono ?_; rintro e w' ⟨rfl, rfl⟩))
          exact ⟨rfl, HR.out.fall HK.out HF.out⟩
      · obtain rfl : k = n := by omega
        clear hr
        go_wp2_with fail
        exact bodyPost_end (results_none rfl _ _ _) rfl (HR.out.done HN.out)
  · go_enter_d Tryz.func78, Tryz.ntmps78
    go_wp2_with fail
    go_loopw [8] (fun i wr => ∃ k : Nat, k ≤ n ∧ i = .int .i64 k ∧ PutRel B b g l ss w k wr) (fun i _ => n - (intOf i).toNat)
    case atStart => exact ⟨0, Nat.zero_le _, rfl, H0.out⟩
    case round =>
      obtain ⟨k, hk, rfl, hr⟩ := hrel
      have HR := Lib.hid hr
      by_cases hlt : k < n
      · obtain ⟨s, hs⟩ : ∃ s, ss[k]? = some s := ⟨ss[k]'(by rw [hn]; exact hlt), by simp⟩
        have c0 := hr.row.cell hs
        have HK := Lib.hid hs
        obtain ⟨m, hm⟩ : ∃ m, (l ++ cat (ss.take k)).length = m := ⟨_, rfl⟩
        have hm1 : m ≤ 1048576 := hm ▸ hr.le
        have hsz : s.size ≤ 140737488355328 - 1048576 := HS.out s (List.mem_of_getElem? hs)
        have HM := Lib.hid hm
        have hw1 : IntKind.i64.wrap ((m : Int) + (s.size : Int)) = (m : Int) + (s.size : Int) := by rw [IntKind.wrap_i64]; omega
        have HL := Lib.hid (show (Lib.byteCells (l ++ cat (ss.take k))).length + s.size ≤ 140737488355328 from by rw [Lib.byteCells_length, hm]; omega)
        by_cases hf : m + s.size ≤ 1048576
        · have hgt : ¬ (1048576 : Int) < (m : Int) + (s.size : Int) := by omega
          have HF := Lib.hid (show (l ++ cat (ss.take k)).length + s.size ≤ 1048576 from by rw [hm]; exact hf)
          have HT := Lib.hid hlt
          have HW := Lib.hid (show wrap64 ((k : Int) + 1) = (k : Int) + 1 from by have := HNN.out; unfold wrap64; omega)
          have hw64 := HW.out
          clear hr hs hm hm1 hsz hf hlt
          go_wp2_with (first
            | (go_at_call 115; refine (len_is HR.out.box HM.out).mono ?_; rintro e w' ⟨rfl, rfl⟩)
            | (go_at_call 46; refine (write_calls B b _ s _ HR.out.box HL.out (Nat.le_trans HB.out HR.out.below.size)).mono ?_; rintro e w' ⟨rfl, h1, h2, h3⟩; have HN' := Lib.hid (HR.out.next HK.out HF.out h1 h2 h3); clear h1 h2 h3))
          go_roundw
          case rel => exact ⟨k + 1, HT.out, by go_num, HN'.out⟩
          case measure => exact sp_meas (by rw [HW.out]; exact Int.lt_succ _) (Int.natCast_nonneg _) (Int.ofNat_lt.2 HT.out)
        · have hgt : (1048576 : Int) < (m : Int) + (s.size : Int) := by omega
          have HF := Lib.hid (show 1048576 < (l ++ cat (ss.take k)).length + s.size from by rw [hm]; omega)
          clear hr hs hm hm1 hsz hf
          go_wp2_with (first
            | (go_at_call 115; refine (len_is HR.out.box HM.out).mono ?_; rintro e w' ⟨rfl, rfl⟩))
          exact ⟨rfl, HR.out.fall HK.out HF.out⟩
      · obtain rfl : k = n := by omega
        clear hr
        go_wp2_with fail
        exact bodyPost_end (results_none rfl _ _ _) rfl (HR.out.done HN.out)
theorem put_calls (B b g n cap : Nat) (l : List UInt8) (ss : List ByteArray) (w : World) (hn : ss.length = n) (hB : B ≤ w.heap.size) (hW : Wr B b l w) (hl : l.length ≤ 1048576) (hS : SRow g ss w) (hs : ∀ s ∈ ss, s.size ≤ 140737488355328 - 1048576) (hnn : n ≤ 2) :
    Calls Tryz.prog 78 #[ptr b 0, .slice (some ⟨g, 0, none⟩) n cap] w (Puts B b l (cat ss) w) := (put_both B b g n cap l ss w hn hB hW hl hS hs hnn).1
end Go.Proofs.YtboondbognbnnaaGreatDoor
