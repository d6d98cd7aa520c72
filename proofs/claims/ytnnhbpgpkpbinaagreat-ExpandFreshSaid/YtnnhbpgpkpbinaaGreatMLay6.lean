/- The law's own functions: Lay. -/
import Derived.Test.YtnnhbpgpkpbinaaGreatMLay4
import Derived.Test.YtnnhbpgpkpbinaaGreatMExpB
import Derived.Laws.MakeOwn
import Derived.Deep.CutRange
import Derived.Deep.RegionLaw
import Derived.Deep.AppendLies
set_option linter.unusedVariables false
set_option linter.unusedSimpArgs false
namespace Go.Proofs.YtnnhbpgpkpbinaaGreat
open Go.RowKit

def LayPost (t : T) (w : World) (e : Ending) (w' : World) : Prop := ∃ y F, e = .returned y.val ∧ Laid w' t y F ∧ Fresh w.heap.size w'.heap.size F ∧ Below w.heap.size w w'
def LayAll (t : T) : Prop := t.small → t.nodes ≤ 4096 → ∀ (x : TV) (B : Nat) (w : World), Rep w B t x → B ≤ w.heap.size → Calls Tryz.prog 9 #[x.val] w (LayPost t w)
theorem run_make_at (t e : TypeId) (i : TypeInfo) (z : Value) (ht : Tryz.prog.underlying t = some (.slice e)) (hi : Tryz.prog.info? e = some i) (hz : i.zero = some z) (n : Nat) (hb : i.bytes ≤ 104) (hn : n ≤ 600000) (w : World) :
    (Instr.makeSlice t (.int .i64 0) (.int .i64 ((n : Int) + 2))).run Tryz.prog w = .ok (.slice (some ⟨w.heap.size, 0, none⟩) 0 (n + 2)) (w.alloc (.cells (madeCells z.cells ((n + 2) * i.size)) e)) := by
  have h1 : (i.bytes : Int) * ((n : Int) + 2) ≤ 281474976710656 := by
    have h2 : i.bytes * (n + 2) ≤ 104 * 600002 := Nat.mul_le_mul hb (by omega)
    have h3 : ((i.bytes * (n + 2) : Nat) : Int) ≤ 104 * 600002 := by omega
    rw [Int.natCast_mul] at h3
    have h4 : (((n + 2 : Nat)) : Int) = (n : Int) + 2 := by omega
    rw [h4] at h3
    omega
  have h := run_make (P := Tryz.prog) w t e i z ht hi hz .i64 .i64 0 ((n : Int) + 2) (by omega) (by omega) h1 (by omega)
  rw [show ((n : Int) + 2).toNat = n + 2 by omega] at h
  exact h
theorem run_make_wrap (t e : TypeId) (i : TypeInfo) (z : Value) (ht : Tryz.prog.underlying t = some (.slice e)) (hi : Tryz.prog.info? e = some i) (hz : i.zero = some z) (n : Nat) (hb : i.bytes ≤ 104) (hn : n ≤ 600000) (w : World) :
    (Instr.makeSlice t (.int .i64 0) (.int .i64 (IntKind.i64.wrap ((n : Int) + 2)))).run Tryz.prog w = .ok (.slice (some ⟨w.heap.size, 0, none⟩) 0 (n + 2)) (w.alloc (.cells (madeCells z.cells ((n + 2) * i.size)) e)) := by
  rw [show IntKind.i64.wrap ((n : Int) + 2) = (n : Int) + 2 by rw [IntKind.wrap_i64]; omega]
  exact run_make_at t e i z ht hi hz n hb hn w
/-- what stands beside the lists as they grow -/
structure LayB (w wq : World) (x : TV) (base : Nat) : Prop where
  below : Below w.heap.size w wq
  size : base ≤ wq.heap.size
  box : Box wq w.heap.size x
  res : Box wq (w.heap.size + 1) zeroTV
theorem LayB.later {w w1 w2 : World} {x : TV} {base : Nat} (h : LayB w w1 x base) (hb : Below w1.heap.size w1 w2) : LayB w w2 x base :=
  ⟨h.below.trans (hb.mono h.below.size), Nat.le_trans h.size hb.size, h.box.below hb h.box.lt, h.res.below hb h.res.lt⟩
theorem LayB.grown {w w1 w2 : World} {x : TV} {base ty n : Nat} {v : Value} {zs : List Value} (h : LayB w w1 x base) (hown : w1.ownsRow base ty 1 v n zs) (hbw : w.heap.size + 2 ≤ base) (hg : w1.grownBy w2 v.ownBlock) : LayB w w2 x base := by
  have hlt := hown.lt
  have ne : ∀ b, b < base → some b ≠ v.ownBlock := fun b h e => by have := (hlt b e.symm).1; omega
  exact ⟨h.below.grown hg h.below.size (fun q e => by have := (hlt q e).1; omega), Nat.le_trans h.size hg.size, h.box.grown hg (ne _ (by omega)), h.res.grown hg (ne _ (by omega))⟩
theorem LayB.reset {w wc : World} {x : TV} {base : Nat} (h : LayB w wc x base) : LayB w wc x wc.heap.size := ⟨h.below, Nat.le_refl _, h.box, h.res⟩
theorem two_layB (w : World) (x : TV) : LayB w (two w x) x (w.heap.size + 2) := ⟨two_below w x, Nat.le_of_eq (two_size w x).symm, two_box w x, two_res w x⟩
theorem made_row (W : World) (base ty n : Nat) (hb : base ≤ W.heap.size) (hn : n ≤ 600000) : (W.alloc (.cells (madeCells #[.int .i64 0] (n + 2)) ty)).ownsRow base ty 1 (.slice (some ⟨W.heap.size, 0, none⟩) 0 (n + 2)) 0 [] :=
  World.ownsRow_made W _ (n + 2) hb (by unfold maxLen; omega) (by simp [size_madeCells])

theorem lay_ends {w w5 : World} {x : TV} {B k0 g1 g2 g3 cap1 cap2 cap3 e1 e2 : Nat} {k : Int} {s : ByteArray} {n : Int} {sh a : List Int} {l : List T} {FK : List Nat} (hr : Rep w B (.mk k s n sh a l) x) (hb : Below w.heap.size w w5)
    (m1 : MarkI w5 3 (some ⟨g1, 0, none⟩) x.sl cap1 sh (-71) (-72) g1) (m2 : MarkI w5 2 (some ⟨g2, 0, none⟩) x.al cap2 a (-73) (-74) g2) (m3 : MarkK w5 (some ⟨g3, 0, none⟩) x.kl cap3 g3) (hL : LaidL w5 l g3 0 FK)
    (h1 : w.heap.size + 2 ≤ g1 ∧ g1 < e1) (h2 : e1 ≤ g2 ∧ g2 < e2) (hF : Fresh e2 w5.heap.size (g3 :: FK)) (h12 : e1 ≤ e2) (h0 : k0 = 0) (a0 a1 a2 b0 b1 b2 b3 b4 b5 : Value) :
    LayPost (.mk k s n sh a l) w (.returned (TV.val ⟨x.kind, x.text, x.n, some ⟨g1, 0, none⟩, x.sl, cap1, some ⟨g2, 0, none⟩, x.al, cap2, some ⟨g3, 0, none⟩, x.kl, cap3⟩))
      (((((((((w5.setCell ⟨w.heap.size, 3, none⟩ a0).setCell ⟨w.heap.size, 4, none⟩ a1).setCell ⟨w.heap.size, 5, none⟩ a2).setCell ⟨w.heap.size + 1, 0, none⟩ b0).setCell ⟨w.heap.size + 1, 1, none⟩ b1).setCell ⟨w.heap.size + 1, 2, none⟩ b2).setCell ⟨w.heap.size + 1, 3, none⟩ b3).setCell ⟨w.heap.size + 1, 4, none⟩ b4).setCell ⟨w.heap.size + 1, 5, none⟩ b5) := by
  have hw := hr.wee
  have hl : Laid w5 (.mk k s n sh a l) ⟨x.kind, x.text, x.n, some ⟨g1, 0, none⟩, x.sl, cap1, some ⟨g2, 0, none⟩, x.al, cap2, some ⟨g3, 0, none⟩, x.kl, cap3⟩ (g1 :: g2 :: g3 :: FK) := by
    simp only [Laid]
    exact ⟨⟨hw.k0, hw.k1, hw.n0, hw.n1, hw.ts, by have := m1.room; show x.sl ≤ cap1; omega, by have := m2.room; show x.al ≤ cap2; omega, by have := m3.room; show x.kl ≤ cap3; omega, hw.s1, hw.a1, hw.l1, m1.max, m2.max, m3.max⟩, hr.kind, hr.text, hr.n, hr.kl, g1, g2, g3, FK, rfl, m1, m2, m3, hL⟩
  have hlo : ∀ b ∈ g3 :: FK, e2 ≤ b := hF.lo
  have hall : ∀ b ∈ g1 :: g2 :: g3 :: FK, w.heap.size + 2 ≤ b := fun b hb => by
    rcases List.mem_cons.1 hb with rfl | hb
    · omega
    · rcases List.mem_cons.1 hb with rfl | hb
      · omega
      · have := hlo b hb; omega
  have hb1 : g1 < w5.heap.size := by obtain ⟨cur, h, _⟩ := m1.blk; exact (Array.getElem?_eq_some_iff.1 h).1
  have hb2 : g2 < w5.heap.size := by obtain ⟨cur, h, _⟩ := m2.blk; exact (Array.getElem?_eq_some_iff.1 h).1
  refine ⟨_, g1 :: g2 :: g3 :: FK, rfl, Laid.kept _ _ _ hl (fun b hb => ?_), ⟨?_, fun b hb => by have := hall b hb; omega, fun b hb => ?_⟩, ?_⟩
  · have := hall b hb
    iterate 9 (refine (Below.heap_setCell _ _ _ _ (fun e => by simp only at e; omega)).trans ?_)
    rfl
  · refine List.nodup_cons.2 ⟨fun hm => ?_, List.nodup_cons.2 ⟨fun hm => ?_, hF.nodup⟩⟩
    · rcases List.mem_cons.1 hm with e | hm
      · omega
      · have := hlo g1 hm; omega
    · have := hlo g2 hm; omega
  · have hs : ∀ c, c < w5.heap.size → c < (((((((((w5.setCell ⟨w.heap.size, 3, none⟩ a0).setCell ⟨w.heap.size, 4, none⟩ a1).setCell ⟨w.heap.size, 5, none⟩ a2).setCell ⟨w.heap.size + 1, 0, none⟩ b0).setCell ⟨w.heap.size + 1, 1, none⟩ b1).setCell ⟨w.heap.size + 1, 2, none⟩ b2).setCell ⟨w.heap.size + 1, 3, none⟩ b3).setCell ⟨w.heap.size + 1, 4, none⟩ b4).setCell ⟨w.heap.size + 1, 5, none⟩ b5).heap.size := fun c h => by simpa [World.setCell] using h
    refine hs b ?_
    rcases List.mem_cons.1 hb with rfl | hb
    · exact hb1
    · rcases List.mem_cons.1 hb with rfl | hb
      · exact hb2
      · exact hF.hi b hb
  · iterate 9 (refine Below.setCell ?_ (by simp) _)
    exact hb

theorem LayPost.drew {t : T} {w w' : World} {e : Ending} (h : LayPost t w e w') : LayPost t w e w'.drew := by
  obtain ⟨y, F, h1, h2, h3, h4⟩ := h
  exact ⟨y, F, h1, Laid.kept _ _ _ h2 (fun _ _ => rfl), h3, h4.drew⟩

set_option maxRecDepth 100000 in
set_option maxHeartbeats 4000000 in
theorem lay_all (t : T) : LayAll t := by
  refine T.ind (P := LayAll) ?_ t
  intro k s n sh a l ih hsm hn x B w hr hB
  obtain ⟨hs1, ha1, hsl⟩ := hsm
  have hl4 : l.length ≤ 4096 := by have := T.length_le_nodes l; simp only [T.nodes] at hn; omega
  have hkl : x.kl = l.length := hr.kl
  have hk4 : x.kl ≤ 4096 := by omega
  have hxs := hr.shape.1
  have hxa := hr.atoms.1
  simp only [T.shape_mk, T.atoms_mk] at hxs hxa
  have hs2 : x.sl ≤ 524288 := by omega
  have ha2 : x.al ≤ 524288 := by omega
  have HS := Lib.hid (fun (W : World) (h : Below w.heap.size w W) => hr.shape.keep (Keeps.of_below h hB))
  have HA := Lib.hid (fun (W : World) (h : Below w.heap.size w W) => hr.atoms.keep (Keeps.of_below h hB))
  simp only [T.shape_mk, T.atoms_mk] at HS HA
  have HXS := Lib.hid hxs
  have HXA := Lib.hid hxa
  have HKL := Lib.hid hkl
  have HSL := Lib.hid hsl
  have HR := Lib.hid hr
  have HIH := Lib.hid ih
  have HB0 := Lib.hid (two_below w x)
  have HX0 := Lib.hid (two_box w x)
  have R0 := Lib.hid (two_res w x)
  have HZ0 := Lib.hid (show w.heap.size + 2 ≤ (two w x).heap.size from Nat.le_of_eq (two_size w x).symm)
  clear hr ih hkl hxs hxa hsl hs1 ha1
  simp only [TV.val, TV.cells]
  obtain ⟨i0, hi0, hz0, hz1, hz2⟩ := info_parts info_int0
  obtain ⟨j0, hj0, hy0, hy1, hy2⟩ := info_parts info_int640
  have hmk1 := run_make_wrap 23 3 i0 (.int .i64 0) Tryz.underlying23 hi0 hz0 x.sl (by rw [hz2]; omega) (by omega)
  go_enter Tryz.func9, Tryz.ntmps9
  go_upto_region 1 with fail
  go_cut [3] from 7 to 18 (fun v wq => LayNum w wq x (w.heap.size + 2) 3 v (x.sl + 2) (sh ++ [-71, -72]))
  case first =>
   have L0 := Lib.hid (two_layB w x)
   have hM := made_row (two w x) (w.heap.size + 2) 3 x.sl (Nat.le_of_eq (two_size w x).symm) (by omega)
   have hM' := made_row ((two w x).alloc (.cells #[.int .i64 (-71), .int .i64 (-72)] 3)) (w.heap.size + 2) 3 x.sl (by simp) (by omega)
   rw [two_size] at hM
   rw [World.size_alloc, two_size] at hM'
   have HM := Lib.hid (fun (W : World) (h : Below (w.heap.size + 3) ((two w x).alloc (.cells (madeCells #[.int .i64 0] (x.sl + 2)) 3)) W) => World.ownsRow.kept hM (w' := W) (row := none) ⟨h.os, h.tape, h.output, h.size, fun b hb _ => h.block b (by simp at hb; omega)⟩ (Classical.em _))
   have HM' := Lib.hid (fun (W : World) (h : Below (w.heap.size + 4) (((two w x).alloc (.cells #[.int .i64 (-71), .int .i64 (-72)] 3)).alloc (.cells (madeCells #[.int .i64 0] (x.sl + 2)) 3)) W) => World.ownsRow.kept hM' (w' := W) (row := none) ⟨h.os, h.tape, h.output, h.size, fun b hb _ => h.block b (by simp at hb; omega)⟩ (Classical.em _))
   clear hM hM'
   go_region_law (first
    | (refine step_append_ints (by rfl) _ _ 23 (by rfl) (w.heap.size + 2) 3 i0 (.int .i64 0) Tryz.underlying23 hi0 hz0 hz1 hz2 (by rfl) (.slice (some ⟨w.heap.size + 1 + 1, 0, none⟩) 0 (x.sl + 2)) 0 [] (by rfl) (HM.out _ (by go_grown)) x.sa x.sl x.sc B sh (by rfl) (HS.out _ (by go_grown)) (by unfold maxLen; omega) (by omega) (by simp only [World.size_alloc, World.size_drew]; omega) ?_; intro v1 w1 hown1 hgrow1 _; have L1 := Lib.hid (LayB.grown (L0.out.later (by go_grown)) (HM.out _ (by go_grown)) (Nat.le_refl _) hgrow1); have HW := Lib.hid (show w1.ownsRow (w.heap.size + 2) 3 1 v1 x.sl (sh.map (Value.int .i64)) from by simpa using hown1); (try (have e0 : w1.cell? ⟨w.heap.size + 1 + 1 + 1, 0, none⟩ = some (.int .i64 (-71)) := by (refine World.grownBy.cell hgrow1 ?_ ?_; (first | (simp; done) | (simp [go_sem]; done) | go_simp); (simp [Value.ownBlock]; done)))); (try (have e1 : w1.cell? ⟨w.heap.size + 1 + 1 + 1, 1, none⟩ = some (.int .i64 (-72)) := by (refine World.grownBy.cell hgrow1 ?_ ?_; (first | (simp; done) | (simp [go_sem]; done) | go_simp); (simp [Value.ownBlock]; done)))); have X1 := L1.out.box; obtain ⟨k0, k1, k2, k3, k4, k5, kf⟩ := X1; clear hown1 hgrow1)
    | (refine step_append_ints (by rfl) _ _ 23 (by rfl) (w.heap.size + 2) 3 i0 (.int .i64 0) Tryz.underlying23 hi0 hz0 hz1 hz2 (by rfl) (.slice (some ⟨w.heap.size + 1 + 1 + 1, 0, none⟩) 0 (x.sl + 2)) 0 [] (by rfl) (HM'.out _ (by go_grown)) x.sa x.sl x.sc B sh (by rfl) (HS.out _ (by go_grown)) (by unfold maxLen; omega) (by omega) (by simp only [World.size_alloc, World.size_drew]; omega) ?_; intro v1 w1 hown1 hgrow1 _; have L1 := Lib.hid (LayB.grown (L0.out.later (by go_grown)) (HM'.out _ (by go_grown)) (Nat.le_refl _) hgrow1); have HW := Lib.hid (show w1.ownsRow (w.heap.size + 2) 3 1 v1 x.sl (sh.map (Value.int .i64)) from by simpa using hown1); (try (have e0 : w1.cell? ⟨w.heap.size + 1 + 1, 0, none⟩ = some (.int .i64 (-71)) := by (refine World.grownBy.cell hgrow1 ?_ ?_; (first | (simp; done) | (simp [go_sem]; done) | go_simp); (simp [Value.ownBlock]; done)))); (try (have e1 : w1.cell? ⟨w.heap.size + 1 + 1, 1, none⟩ = some (.int .i64 (-72)) := by (refine World.grownBy.cell hgrow1 ?_ ?_; (first | (simp; done) | (simp [go_sem]; done) | go_simp); (simp [Value.ownBlock]; done)))); have X1 := L1.out.box; obtain ⟨k0, k1, k2, k3, k4, k5, kf⟩ := X1; clear hown1 hgrow1)
    | (refine step_append_lies _ (by rfl) _ _ 23 (by rfl) (w.heap.size + 2) 3 i0 (.int .i64 0) 1 8 Tryz.underlying23 hi0 hz0 hz1 hz2 (by rfl) (by decide) v1 x.sl (sh.map (Value.int .i64)) (by rfl) (HW.out.kept (grown_of_below (by first | exact Below.refl _ _ | go_grown) none) (Classical.em _)) _ 2 2 [.int .i64 (-71), .int .i64 (-72)] (by rfl) (by rfl) (by first | exact news2 e0 e1 | exact row_new w1 #[.int .i64 (-71), .int .i64 (-72)] _) (by intro u hu; simp at hu; rcases hu with rfl | rfl <;> rfl) (by omega) (by unfold maxLen; omega) (by omega) (by first | exact L1.out.size | (simp only [World.size_alloc]; have := L1.out.size; omega)) _ rfl ?_; intro g cap w2 hown2 hgrow2 _ _; have L2 := Lib.hid (by first | exact LayB.grown L1.out HW.out (Nat.le_refl _) hgrow2 | exact LayB.grown (L1.out.later (by go_grown)) (HW.out.kept (grown_of_below (by go_grown) none) (Classical.em _)) (Nat.le_refl _) hgrow2 : LayB w w2 x (w.heap.size + 2)); have HW2 := Lib.hid (show w2.ownsRow (w.heap.size + 2) 3 1 (.slice (some ⟨g, 0, none⟩) (x.sl + 2) cap) (x.sl + 2) ((sh ++ [-71, -72]).map (Value.int .i64)) from by simpa using hown2); have X2 := L2.out.box; obtain ⟨k0, k1, k2, k3, k4, k5, kf⟩ := X2; clear hown2 hgrow2))
   all_goals
    go_wp2_with fail
    go_meet
    case rel => exact ⟨L2.out.below, L2.out.size, L2.out.box, L2.out.res, HW2.out, ⟨g, cap, rfl⟩⟩
  case rest =>
    obtain ⟨hb1, hq1, hx1, hr1, hrow1, g1, cap1, rfl⟩ := hcut
    have LB1 := Lib.hid (LayB.mk hb1 hq1 hx1 hr1)
    have HROW1 := Lib.hid hrow1
    have hbw1 : w.heap.size + 2 ≤ wc.heap.size := hq1
    have hbx1 : w.heap.size < wc.heap.size := by omega
    have hbx2 : w.heap.size + 1 < wc.heap.size := by omega
    have HGB := Lib.hid (fun (W : World) (h : Below wc.heap.size wc W) => hb1.trans (h.mono hb1.size))
    obtain ⟨k0, k1, k2, k3, k4, k5, kf⟩ := hx1
    clear hb1 hq1 hr1 hrow1
    have hmk2 := run_make_wrap 25 2 j0 (.int .i64 0) Tryz.underlying25 hj0 hy0 x.al (by rw [hy2]; omega) (by omega)
    go_upto_region 2 with fail
    go_cut [4] from 19 to 30 (fun v wq => Below wc.heap.size wc wq ∧ LayNum w wq x wc.heap.size 2 v (x.al + 2) (a ++ [-73, -74]))
    case first =>
     have L0 := Lib.hid (LayB.reset LB1.out)
     have hM := made_row wc wc.heap.size 2 x.al (Nat.le_refl _) (by omega)
     have hM' := made_row (wc.alloc (.cells #[.int .i64 (-73), .int .i64 (-74)] 2)) wc.heap.size 2 x.al (by simp) (by omega)
     rw [World.size_alloc] at hM'
     have HM := Lib.hid (fun (W : World) (h : Below (wc.heap.size + 1) (wc.alloc (.cells (madeCells #[.int .i64 0] (x.al + 2)) 2)) W) => World.ownsRow.kept hM (w' := W) (row := none) ⟨h.os, h.tape, h.output, h.size, fun b hb _ => h.block b (by simp at hb; omega)⟩ (Classical.em _))
     have HM' := Lib.hid (fun (W : World) (h : Below (wc.heap.size + 2) ((wc.alloc (.cells #[.int .i64 (-73), .int .i64 (-74)] 2)).alloc (.cells (madeCells #[.int .i64 0] (x.al + 2)) 2)) W) => World.ownsRow.kept hM' (w' := W) (row := none) ⟨h.os, h.tape, h.output, h.size, fun b hb _ => h.block b (by simp at hb; omega)⟩ (Classical.em _))
     clear hM hM'
     go_region_law (first
      | (refine step_append_ints (by rfl) _ _ 25 (by rfl) wc.heap.size 2 j0 (.int .i64 0) Tryz.underlying25 hj0 hy0 hy1 hy2 (by rfl) (.slice (some ⟨wc.heap.size, 0, none⟩) 0 (x.al + 2)) 0 [] (by rfl) (HM.out _ (by go_grown)) x.aa x.al x.ac B a (by rfl) (HA.out _ (HGB.out _ (by go_grown))) (by unfold maxLen; omega) (by omega) (by simp only [World.size_alloc, World.size_drew]; omega) ?_; intro v1 w1 hown1 hgrow1 _; have L1 := Lib.hid (LayB.grown (L0.out.later (by go_grown)) (HM.out _ (by go_grown)) hbw1 hgrow1); have HBC := Lib.hid (show Below wc.heap.size wc w1 from by first | exact (Below.grown (by go_grown) hgrow1 (by simp only [World.size_alloc, World.size_drew]; omega) (fun q e => by simp [Value.ownBlock] at e; omega))); have HW := Lib.hid (show w1.ownsRow wc.heap.size 2 1 v1 x.al (a.map (Value.int .i64)) from by simpa using hown1); (try (have e0 : w1.cell? ⟨wc.heap.size + 1, 0, none⟩ = some (.int .i64 (-73)) := by (refine World.grownBy.cell hgrow1 ?_ ?_; (first | (simp; done) | (simp [go_sem]; done) | go_simp); (simp [Value.ownBlock]; done)))); (try (have e1 : w1.cell? ⟨wc.heap.size + 1, 1, none⟩ = some (.int .i64 (-74)) := by (refine World.grownBy.cell hgrow1 ?_ ?_; (first | (simp; done) | (simp [go_sem]; done) | go_simp); (simp [Value.ownBlock]; done)))); have X1 := L1.out.box; obtain ⟨k0, k1, k2, k3, k4, k5, kf⟩ := X1; clear hown1 hgrow1)
      | (refine step_append_ints (by rfl) _ _ 25 (by rfl) wc.heap.size 2 j0 (.int .i64 0) Tryz.underlying25 hj0 hy0 hy1 hy2 (by rfl) (.slice (some ⟨wc.heap.size + 1, 0, none⟩) 0 (x.al + 2)) 0 [] (by rfl) (HM'.out _ (by go_grown)) x.aa x.al x.ac B a (by rfl) (HA.out _ (HGB.out _ (by go_grown))) (by unfold maxLen; omega) (by omega) (by simp only [World.size_alloc, World.size_drew]; omega) ?_; intro v1 w1 hown1 hgrow1 _; have L1 := Lib.hid (LayB.grown (L0.out.later (by go_grown)) (HM'.out _ (by go_grown)) hbw1 hgrow1); have HBC := Lib.hid (show Below wc.heap.size wc w1 from by first | exact (Below.grown (by go_grown) hgrow1 (by simp only [World.size_alloc, World.size_drew]; omega) (fun q e => by simp [Value.ownBlock] at e; omega))); have HW := Lib.hid (show w1.ownsRow wc.heap.size 2 1 v1 x.al (a.map (Value.int .i64)) from by simpa using hown1); (try (have e0 : w1.cell? ⟨wc.heap.size, 0, none⟩ = some (.int .i64 (-73)) := by (refine World.grownBy.cell hgrow1 ?_ ?_; (first | (simp; done) | (simp [go_sem]; done) | go_simp); (simp [Value.ownBlock]; done)))); (try (have e1 : w1.cell? ⟨wc.heap.size, 1, none⟩ = some (.int .i64 (-74)) := by (refine World.grownBy.cell hgrow1 ?_ ?_; (first | (simp; done) | (simp [go_sem]; done) | go_simp); (simp [Value.ownBlock]; done)))); have X1 := L1.out.box; obtain ⟨k0, k1, k2, k3, k4, k5, kf⟩ := X1; clear hown1 hgrow1)
      | (refine step_append_lies _ (by rfl) _ _ 25 (by rfl) wc.heap.size 2 j0 (.int .i64 0) 1 8 Tryz.underlying25 hj0 hy0 hy1 hy2 (by rfl) (by decide) v1 x.al (a.map (Value.int .i64)) (by rfl) (HW.out.kept (grown_of_below (by first | exact Below.refl _ _ | go_grown) none) (Classical.em _)) _ 2 2 [.int .i64 (-73), .int .i64 (-74)] (by rfl) (by rfl) (by first | exact news2 e0 e1 | exact row_new w1 #[.int .i64 (-73), .int .i64 (-74)] _) (by intro u hu; simp at hu; rcases hu with rfl | rfl <;> rfl) (by omega) (by unfold maxLen; omega) (by omega) (by first | exact L1.out.size | (simp only [World.size_alloc]; have := L1.out.size; omega)) _ rfl ?_; intro g cap w2 hown2 hgrow2 _ _; have L2 := Lib.hid (by first | exact LayB.grown L1.out HW.out hbw1 hgrow2 | exact LayB.grown (L1.out.later (by go_grown)) (HW.out.kept (grown_of_below (by go_grown) none) (Classical.em _)) hbw1 hgrow2 : LayB w w2 x wc.heap.size); have HBC2 := Lib.hid (show Below wc.heap.size wc w2 from by first | exact HBC.out.grown hgrow2 HBC.out.size (fun q e => (HW.out.lt q e).1) | exact (HBC.out.alloc HBC.out.size _).grown hgrow2 (by have := HBC.out.size; simp only [World.size_alloc]; omega) (fun q e => (HW.out.lt q e).1)); have HW2 := Lib.hid (show w2.ownsRow wc.heap.size 2 1 (.slice (some ⟨g, 0, none⟩) (x.al + 2) cap) (x.al + 2) ((a ++ [-73, -74]).map (Value.int .i64)) from by simpa using hown2); have X2 := L2.out.box; obtain ⟨k0, k1, k2, k3, k4, k5, kf⟩ := X2; clear hown2 hgrow2))
     all_goals
      go_wp2_with fail
      go_meet
      case rel => exact ⟨HBC2.out, L2.out.below, L2.out.size, L2.out.box, L2.out.res, HW2.out, ⟨g, cap, rfl⟩⟩
    case rest =>
      obtain ⟨hbw2, hb2, hq2, hx2, hr2, hrow2, g2, cap2, rfl⟩ := hcut
      have LB2 := Lib.hid (LayB.reset (LayB.mk hb2 hq2 hx2 hr2))
      have HROW1b := Lib.hid (HROW1.out.kept (grown_of_below hbw2 none) (Classical.em _))
      have HROW2 := Lib.hid hrow2
      have HF1 := Lib.hid (HROW1.out.lt g1 rfl)
      have HF2 := Lib.hid (hrow2.lt g2 rfl)
      have HQ12 := Lib.hid hbw2.size
      clear hbw2 hb2 hq2 hr2 hrow2 hmk1 hmk2 k0 k1 k2 k3 k4 k5 kf
      obtain ⟨k0, k1, k2, k3, k4, k5, kf⟩ := hx2
      obtain ⟨m0, hm0, hmz0, hmz1, hmz2⟩ := info_parts info_term0
      have hmk3 := run_make_wrap 22 29 m0 _ Tryz.underlying22 hm0 hmz0 x.kl (by rw [hmz2]; omega) (by omega)
      rw [hmz1] at hmk3
      have hmk3' := run_make_at 22 29 m0 _ Tryz.underlying22 hm0 hmz0 x.kl (by rw [hmz2]; omega) (by omega)
      rw [hmz1] at hmk3'
      have HST := Lib.hid (fun (cs : Array Value) (hcs : cs.size = (x.kl + 2) * 6) => LGrows.start (l := l) (Below.alloc (Below.refl wc.heap.size wc) (Nat.le_refl _) (.cells cs 29)) (World.ownsRow_made (base := wc.heap.size) (size := 6) wc cs (x.kl + 2) (Nat.le_refl _) (by unfold maxLen; omega) hcs))
      go_wp2_with fail
      go_loopw [5, 6] (fun v i wr => ∃ (K : Nat) (ys : List TV) (FK : List Nat), K ≤ x.kl ∧ i = .int .i64 K ∧ LGrows wc wc.heap.size l ys K v wr FK) (fun _ i _ => x.kl - (intOf i).toNat)
      case atStart => exact ⟨0, [], [], Nat.zero_le _, rfl, HST.out _ (by simp [size_madeCells])⟩
      case round =>
        obtain ⟨i, ys, FK, hi, rfl, hrel⟩ := hrel
        have HG := Lib.hid hrel
        have LBr := Lib.hid (LB2.out.later hrel.below)
        clear hrel k0 k1 k2 k3 k4 k5 kf
        obtain ⟨k0, k1, k2, k3, k4, k5, kf⟩ := LBr.out.box
        by_cases hlt : i < x.kl
        · have hil : i < l.length := by rw [← HKL.out]; exact hlt
          have hu : l[i]? = some l[i] := List.getElem?_eq_getElem hil
          obtain ⟨b, o, y, he, hb, hat, hru⟩ := HR.out.kid (t := T.mk k s n sh a l) (j := i) hu
          have hnn := T.nodes_mem (List.getElem_mem hil)
          have HU := Lib.hid hu
          have hat' := hat.keep hb (Keeps.of_below LBr.out.below hB)
          have hbw : b < wr.heap.size := by have := LBr.out.below.size; omega
          have HC := Lib.hid (HIH.out l[i] (List.getElem_mem hil) (T.smallL_mem HSL.out (List.getElem_mem hil)) (by simp only [T.nodes] at hn; omega) y B wr (hru.below LBr.out.below hB) (Nat.le_trans hB LBr.out.below.size))
          simp only [TV.val, TV.cells] at HC
          rw [he] at k5
          obtain ⟨q0, q1, q2, q3, q4, q5⟩ := hat'
          clear he hat hru hu hnn
          go_wp2_with fail
          refine HC.out.mono ?_
          rintro e w4 ⟨y', G, rfl, hO, hF, hb4⟩
          have HBB := Lib.hid (hb4.alloc hb4.size (.cells y'.cells 29))
          have HK4 := Lib.hid (HG.out.kept HBB.out)
          have HO := Lib.hid (Laid.kept (w' := w4.alloc (.cells y'.cells 29)) _ _ _ hO (fun c hc => Below.heap_alloc w4 _ c (hF.hi c hc)))
          have HF := Lib.hid (hF.mono (a' := wr.heap.size) (b' := (w4.alloc (.cells y'.cells 29)).heap.size) (Nat.le_refl _) (by simp))
          clear hb4 hO hF q0 q1 q2 q3 q4 q5 k0 k1 k2 k3 k4 k5 kf
          have HROW := Lib.hid HK4.out.row
          simp only [TV.val, TV.cells] at HROW ⊢
          go_wp2_with (at_builtin; refine wpList_append_own_at _ rfl _ _ 22 rfl wc.heap.size 29 m0 _ 6 104 Tryz.underlying22 hm0 hmz0 hmz1 hmz2 rfl (by decide) _ _ _ rfl HROW.out ⟨w4.heap.size, 0, none⟩ 1 1 y'.cells.toList rfl rfl (row_new w4 y'.cells _) (cells_one y') (by unfold maxLen; omega) (by omega) HK4.out.hbase ?_)
          intro v' w5 hown' hgrow _ hloc
          have HST2 := Lib.hid (HG.out.step HU.out HBB.out HO.out HF.out hgrow hown' (by simpa using hloc))
          clear hown' hgrow hloc
          go_wp2_with fail
          go_roundw
          case rel => exact ⟨i + 1, _, _, by omega, by go_num, HST2.out⟩
          case measure => simp [intOf]; omega
        · have hie : i = x.kl := by omega
          have HIE := Lib.hid (hie.trans HKL.out)
          clear hie
          go_wp2_with (at_builtin; refine wpList_append_lies _ rfl _ _ 22 rfl wc.heap.size 29 m0 _ 6 104 Tryz.underlying22 hm0 hmz0 hmz1 hmz2 rfl (by decide) _ i (rowCells ys) rfl (HG.out.kept ((Below.refl wr.heap.size wr).alloc (Nat.le_refl _) _)).row ⟨wr.heap.size, 0, none⟩ 2 2 ((markTV (-75)).cells.toList ++ (markTV (-76)).cells.toList) rfl rfl (row_new wr ((markTV (-75)).cells ++ (markTV (-76)).cells) _) (by intro u hu; rcases List.mem_append.1 hu with h | h; exact cells_one _ u h; exact cells_one _ u h) (by omega) (by unfold maxLen; omega) (by omega) (by have := HG.out.hbase; simp; omega) (wr.heap.size + 1) (by simp) ?_)
          intro g3 cap3 w5 hown hgrow hat hlt5
          have HE := Lib.hid (HG.out.ends HIE.out ((Below.refl wr.heap.size wr).alloc (Nat.le_refl _) _) hgrow hown (by rcases hat with h | h; exact .inl h; exact .inr (by simp; omega)))
          have LB5 := Lib.hid (LB2.out.later HE.out.2.2.2)
          clear hown hgrow hat hlt5 k0 k1 k2 k3 k4 k5 kf
          obtain ⟨k0, k1, k2, k3, k4, k5, kf⟩ := LB5.out.box
          have hik : i = x.kl := HIE.out.trans HKL.out.symm
          subst hik
          have hm1 := markI_of_row ((HROW1b.out.kept (grown_of_below (show Below wc.heap.size wc w5 from HE.out.2.2.2) none) (Classical.em _))) HXS.out
          have hm2 := markI_of_row ((HROW2.out.kept (grown_of_below (show Below wc.heap.size wc w5 from HE.out.2.2.2) none) (Classical.em _))) HXA.out
          have hc1 := hm1.room
          have hc2 := hm2.room
          have hc3 := HE.out.1.room
          have hx1 := hm1.max
          have hx2 := hm2.max
          have hx3 := HE.out.1.max
          have HM1 := Lib.hid hm1
          have HM2 := Lib.hid hm2
          unfold maxLen at hx1 hx2 hx3
          have HB5 := Lib.hid LB5.out.below
          obtain ⟨r0, r1, r2, r3, r4, r5, rf⟩ := LB5.out.res
          simp only [zeroTV] at r0 r1 r2 r3 r4 r5
          have s1 : (0 : Int) ≤ (x.sl : Int) := by omega
          have s2 : (0 : Int) ≤ (x.al : Int) := by omega
          have s3 : (x.sl : Int) ≤ (cap1 : Int) := by omega
          have s4 : (x.al : Int) ≤ (cap2 : Int) := by omega
          have s5 : x.sl ≤ cap1 := by omega
          have s6 : x.al ≤ cap2 := by omega
          have s7 : x.kl ≤ cap3 := by omega
          have s8 : (x.kl : Int) ≤ (cap3 : Int) := by omega
          have s9 : ¬ x.sl = cap1 := by omega
          clear hm1 hm2
          go_wp2_with fail
          go_region
          go_wp2_with fail
          refine bodyPost_ret (v := TV.val ⟨x.kind, x.text, x.n, some ⟨g1, 0, none⟩, x.sl, cap1, some ⟨g2, 0, none⟩, x.al, cap2, some ⟨g3, 0, none⟩, x.kl, cap3⟩) (by simp [results, Tryz.results9, TV.val, TV.cells, r0, r1, r2, r3, r4, r5, rf, go_sem]) rfl ?_
          with_reducible exact (lay_ends (k0 := 0) HR.out HB5.out HM1.out HM2.out HE.out.1 HE.out.2.1 HF1.out HF2.out HE.out.2.2.1 HQ12.out rfl _ _ _ _ _ _ _ _ _).drew
end Go.Proofs.YtnnhbpgpkpbinaaGreat
