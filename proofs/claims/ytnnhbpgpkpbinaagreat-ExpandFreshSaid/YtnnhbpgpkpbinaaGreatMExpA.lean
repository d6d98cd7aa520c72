/- Package expand: the small makers. Package expand: twin. Package expand: the expander. Package expand: opens. Package expand: what the openers' walks want. -/
import Derived.Test.YtnnhbpgpkpbinaaGreatMTwinA
import Derived.Test.YtnnhbpgpkpbinaaGreatMTermE
import Derived.Deep.Cut
import Derived.Maps.OwnOps
import Derived.Maps.Views
import Derived.Test.YtnnhbpgpkpbinaaGreatMPureA
set_option linter.unusedVariables false
set_option linter.unusedSimpArgs false
namespace Go.Proofs.YtnnhbpgpkpbinaaGreat
open Go.RowKit

/-- a node without text and numbers, its kids in a row of their own -/
def nodeTV (k n : Int) (g len : Nat) : TV := ⟨k, ⟨#[]⟩, n, none, 0, 0, none, 0, 0, some ⟨g, 0, none⟩, len, len⟩
def leafTV (k : Int) (s : ByteArray) : TV := ⟨k, s, 0, none, 0, 0, none, 0, 0, none, 0, 0⟩
/-- a block that is a row of terms -/
def RowAt (w : World) (g : Nat) (ys : List TV) : Prop := w.heap[g]? = some (.cells (rowCells ys).toArray 29 (0, 0))
theorem RowAt.below {w w' : World} {g B : Nat} {ys : List TV} (h : RowAt w g ys) (hb : Below B w w') (hg : g < B) : RowAt w' g ys := (hb.block g hg).trans h
theorem rowAt_new {W : World} {cs : Array Value} {n : Nat} {ys : List TV} (hn : n = W.heap.size) (hc : cs = (rowCells ys).toArray) : RowAt (W.alloc (.cells cs 29)) n ys := by
  subst hn hc
  show (W.heap.push _)[W.heap.size]? = _
  simp
theorem rowAt_alloc {W : World} {g : Nat} {ys : List TV} {o : Obj} (h : RowAt W g ys) (hg : g < W.heap.size) : RowAt (W.alloc o) g ys := (Below.heap_alloc W o g hg).trans h
theorem RowAt.cell {w : World} {g : Nat} {ys : List TV} (h : RowAt w g ys) (j : Nat) (u : Value) (hu : (rowCells ys)[j]? = some u) : w.cell? ⟨g, j, none⟩ = some u := by
  unfold RowAt at h
  simp [World.cell?, h, hu]
theorem leaf_own (w : World) (k : Int) (s : ByteArray) (hs : s.size ≤ 140737488355328) (h0 : -9223372036854775808 ≤ k) (h1 : k ≤ 9223372036854775807) : Own w (.mk k s 0 [] [] []) (leafTV k s) [] := by
  simp only [Own]
  refine ⟨⟨h0, h1, (by show (-9223372036854775808 : Int) ≤ 0; decide), (by show (0 : Int) ≤ 9223372036854775807; decide), hs, Nat.le_refl _, Nat.le_refl _, Nat.le_refl _, Nat.zero_le _, Nat.zero_le _, Nat.zero_le _, Nat.zero_le _, Nat.zero_le _, Nat.zero_le _⟩, rfl, rfl, rfl, rfl, [], [], [], [], rfl, ?_, ?_, .inl ⟨rfl, rfl, rfl⟩, rfl⟩
  · exact ⟨rfl, .inl ⟨rfl, rfl, rfl⟩, fun b e => by cases e⟩
  · exact ⟨rfl, .inl ⟨rfl, rfl, rfl⟩, fun b e => by cases e⟩
theorem node_own {w : World} {k n : Int} {g : Nat} {l : List T} {ys : List TV} {FK : List Nat} (hk : OwnK w l ys FK) (hr : RowAt w g ys) (h0 : -9223372036854775808 ≤ k) (h1 : k ≤ 9223372036854775807) (h2 : -9223372036854775808 ≤ n) (h3 : n ≤ 9223372036854775807) (hl : l.length ≤ 4096) :
    Own w (.mk k (T.txt []) n [] [] l) (nodeTV k n g l.length) ([g] ++ FK) := by
  have hlen := hk.len
  simp only [Own]
  refine ⟨⟨h0, h1, h2, h3, Nat.zero_le _, Nat.le_refl _, Nat.le_refl _, Nat.le_refl _, Nat.zero_le _, Nat.zero_le _, ?_, Nat.zero_le _, Nat.zero_le _, ?_⟩, rfl, rfl, rfl, rfl, [], [], [g], FK, rfl, ?_, ?_, .inr ⟨g, _, rfl, rfl, hr, Nat.le_refl _, ?_, ?_⟩, ?_⟩
  · show l.length ≤ 2199023255552; omega
  · show l.length ≤ maxLen; unfold maxLen; omega
  · exact ⟨rfl, .inl ⟨rfl, rfl, rfl⟩, fun b e => by cases e⟩
  · exact ⟨rfl, .inl ⟨rfl, rfl, rfl⟩, fun b e => by cases e⟩
  · show l.length ≤ maxLen; unfold maxLen; omega
  · show l.length * 6 ≤ _; simp [rowCells_len, hlen]
  · exact hk.laid 0 (fun j u hu => by rw [Nat.zero_mul, Nat.zero_add]; exact hr.cell j u hu)

theorem name_calls (s : ByteArray) (w : World) :
    Calls Tryz.prog 55 #[.string s] w fun e w' => e = .returned (leafTV 2 s).val ∧ Below w.heap.size w w' := by
  go_enter Tryz.func55, Tryz.ntmps55
  go_wp2_with fail
  refine bodyPost_ret (v := .agg #[.int .i64 2, .string s, .int .i64 0, .slice none 0 0, .slice none 0 0, .slice none 0 0]) (by simp [results, Tryz.results55, go_sem]) rfl ?_
  exact ⟨rfl, by go_grown⟩
def leftB (v : Int) : ByteArray := if v = 2 then ⟨#[120]⟩ else ⟨#[121]⟩
theorem left_calls (v : Int) (w : World) :
    Calls Tryz.prog 56 #[.int .i64 v] w fun e w' => e = .returned (leafTV 2 (leftB v)).val ∧ Below w.heap.size w w' := by
  by_cases h : v = 2
  · have hd : (v == 2) = true := by simp [h]
    have e : leftB v = ⟨#[120]⟩ := by rw [leftB, if_pos h]
    rw [e]
    clear h e
    go_enter Tryz.func56, Tryz.ntmps56
    go_wp2_with (go_at_call 55; refine (name_calls _ _).mono ?_; rintro e w1 ⟨rfl, hb⟩; simp only [leafTV, TV.val, TV.cells]; obtain ⟨hc, hf⟩ := bcell hb; have hz : w.heap.size < w1.heap.size := by have := hb.size; simp at this; omega)
    refine bodyPost_ret (v := (leafTV 2 ⟨#[120]⟩).val) (by simp [results, Tryz.results56, leafTV, TV.val, TV.cells, hc, hf, hz, go_sem]) rfl ⟨rfl, ?_⟩
    have hb' : Below w.heap.size w w1 := ((Below.refl _ _).alloc (Nat.le_refl _) _).trans (hb.mono (by simp))
    clear hc hf hb
    go_grown
  · have hd : (v == 2) = false := by simp [h]
    have e : leftB v = ⟨#[121]⟩ := by rw [leftB, if_neg h]
    rw [e]
    clear h e
    go_enter Tryz.func56, Tryz.ntmps56
    go_wp2_with (go_at_call 55; refine (name_calls _ _).mono ?_; rintro e w1 ⟨rfl, hb⟩; simp only [leafTV, TV.val, TV.cells]; obtain ⟨hc, hf⟩ := bcell hb; have hz : w.heap.size < w1.heap.size := by have := hb.size; simp at this; omega)
    refine bodyPost_ret (v := (leafTV 2 ⟨#[121]⟩).val) (by simp [results, Tryz.results56, leafTV, TV.val, TV.cells, hc, hf, hz, go_sem]) rfl ⟨rfl, ?_⟩
    have hb' : Below w.heap.size w w1 := ((Below.refl _ _).alloc (Nat.le_refl _) _).trans (hb.mono (by simp))
    clear hc hf hb
    go_grown

set_option maxHeartbeats 1000000 in
theorem mon_calls (y1 y2 : TV) (w : World) :
    Calls Tryz.prog 49 #[y1.val, y2.val] w fun e w' => ∃ g, e = .returned (nodeTV 3 0 g 2).val ∧ w.heap.size ≤ g ∧ RowAt w' g [y1, y2] ∧ g < w'.heap.size ∧ Below w.heap.size w w' := by
  simp only [TV.val, TV.cells]
  go_enter Tryz.func49, Tryz.ntmps49
  go_wp2_with fail
  refine bodyPost_ret (v := (nodeTV 3 0 (w.heap.size + 1 + 1 + 1) 2).val) (by simp [results, Tryz.results49, nodeTV, TV.val, TV.cells, go_sem]) rfl ?_
  refine ⟨_, rfl, by omega, ?_, by simp, by go_grown⟩
  exact rowAt_new (by simp) (by simp [rowCells, TV.cells])

set_option maxHeartbeats 1000000 in
theorem dy_calls (y1 y2 y3 : TV) (w : World) :
    Calls Tryz.prog 54 #[y1.val, y2.val, y3.val] w fun e w' => ∃ g, e = .returned (nodeTV 4 0 g 3).val ∧ w.heap.size ≤ g ∧ RowAt w' g [y1, y2, y3] ∧ g < w'.heap.size ∧ Below w.heap.size w w' := by
  simp only [TV.val, TV.cells]
  go_enter Tryz.func54, Tryz.ntmps54
  go_wp2_with fail
  refine bodyPost_ret (v := (nodeTV 4 0 (w.heap.size + 1 + 1 + 1 + 1) 3).val) (by simp [results, Tryz.results54, nodeTV, TV.val, TV.cells, go_sem]) rfl ?_
  refine ⟨_, rfl, by omega, ?_, by simp, by go_grown⟩
  exact rowAt_new (by simp) (by simp [rowCells, TV.cells])

set_option maxHeartbeats 1000000 in
theorem definition_calls (v : Int) (y : TV) (w : World) :
    Calls Tryz.prog 26 #[.int .i64 v, y.val] w fun e w' => ∃ g1 g2 g3, e = .returned (nodeTV 23 v g3 1).val ∧ w.heap.size ≤ g1 ∧ g1 < g2 ∧ g2 < g3 ∧ g3 < w'.heap.size ∧ RowAt w' g1 [y] ∧ RowAt w' g2 [nodeTV 10 0 g1 1] ∧ RowAt w' g3 [nodeTV 14 0 g2 1] ∧ Below w.heap.size w w' := by
  simp only [TV.val, TV.cells]
  go_enter Tryz.func26, Tryz.ntmps26
  go_wp2_with fail
  refine bodyPost_ret (v := (nodeTV 23 v (w.heap.size + 1 + 1 + 1 + 1) 1).val) (by simp [results, Tryz.results26, nodeTV, TV.val, TV.cells, go_sem]) rfl ?_
  refine ⟨w.heap.size + 1 + 1, w.heap.size + 1 + 1 + 1, _, rfl, by omega, by omega, by omega, by simp, ?_, ?_, ?_, by go_grown⟩
  · exact rowAt_alloc (rowAt_alloc (rowAt_new (by simp) (by simp [rowCells, TV.cells])) (by simp)) (by simp)
  · exact rowAt_alloc (rowAt_new (by simp) (by simp [rowCells, TV.cells, nodeTV])) (by simp)
  · exact rowAt_new (by simp) (by simp [rowCells, TV.cells, nodeTV])

theorem Fresh.cons {lo hi hi' g : Nat} {F : List Nat} (h : Fresh lo hi F) (hlo : lo ≤ hi) (hg : hi ≤ g) (hg2 : g < hi') : Fresh lo hi' ([g] ++ F) :=
  (h.app (Fresh.one hg hg2) hlo (by omega)).perm List.perm_append_comm
/-- a node over kids of their own, its row new -/
theorem node_new {lo : Nat} {w w' : World} {k n : Int} {g : Nat} {l : List T} {ys : List TV} {FK : List Nat} (hk : OwnK w l ys FK) (hF : Fresh lo w.heap.size FK) (hb : Below w.heap.size w w') (hg : w.heap.size ≤ g) (hg2 : g < w'.heap.size) (hr : RowAt w' g ys) (hlo : lo ≤ w.heap.size)
    (h0 : -9223372036854775808 ≤ k) (h1 : k ≤ 9223372036854775807) (h2 : -9223372036854775808 ≤ n) (h3 : n ≤ 9223372036854775807) (hl : l.length ≤ 4096) :
    Own w' (.mk k (T.txt []) n [] [] l) (nodeTV k n g l.length) ([g] ++ FK) ∧ Fresh lo w'.heap.size ([g] ++ FK) :=
  ⟨node_own (hk.kept (fun b hb' => hb.block b (hF.hi b hb'))) hr h0 h1 h2 h3 hl, hF.cons hlo hg hg2⟩
theorem ownK1 {w : World} {t : T} {y : TV} {F : List Nat} (h : Own w t y F) : OwnK w [t] [y] F := ⟨F, [], by simp, h, rfl⟩
theorem ownK2 {w : World} {t u : T} {y z : TV} {F G : List Nat} (h : Own w t y F) (k : Own w u z G) : OwnK w [t, u] [y, z] (F ++ G) := ⟨F, G, rfl, h, ownK1 k⟩
theorem ownK3 {w : World} {t u x : T} {y z a : TV} {F G H : List Nat} (h : Own w t y F) (k : Own w u z G) (m : Own w x a H) : OwnK w [t, u, x] [y, z, a] (F ++ G ++ H) := ⟨F, G ++ H, by simp, h, ownK2 k m⟩
theorem mon_new {lo : Nat} {w w' : World} {v e : T} {y1 y2 : TV} {F1 F2 : List Nat} {g : Nat} (o1 : Own w v y1 F1) (o2 : Own w e y2 F2) (hF : Fresh lo w.heap.size (F1 ++ F2)) (hlo : lo ≤ w.heap.size) (hb : Below w.heap.size w w') (hg : w.heap.size ≤ g) (hg2 : g < w'.heap.size) (hr : RowAt w' g [y1, y2]) :
    Own w' (T.monT v e) (nodeTV 3 0 g 2) ([g] ++ (F1 ++ F2)) ∧ Fresh lo w'.heap.size ([g] ++ (F1 ++ F2)) :=
  node_new (ownK2 o1 o2) hF hb hg hg2 hr hlo (by decide) (by decide) (by decide) (by decide) (by simp)
theorem dy_new {lo : Nat} {w w' : World} {v l r : T} {y1 y2 y3 : TV} {F1 F2 F3 : List Nat} {g : Nat} (o1 : Own w v y1 F1) (o2 : Own w l y2 F2) (o3 : Own w r y3 F3) (hF : Fresh lo w.heap.size (F1 ++ F2 ++ F3)) (hlo : lo ≤ w.heap.size) (hb : Below w.heap.size w w') (hg : w.heap.size ≤ g) (hg2 : g < w'.heap.size) (hr : RowAt w' g [y1, y2, y3]) :
    Own w' (T.dyT v l r) (nodeTV 4 0 g 3) ([g] ++ (F1 ++ F2 ++ F3)) ∧ Fresh lo w'.heap.size ([g] ++ (F1 ++ F2 ++ F3)) :=
  node_new (ownK3 o1 o2 o3) hF hb hg hg2 hr hlo (by decide) (by decide) (by decide) (by decide) (by simp)
theorem def_new {lo : Nat} {w w' : World} {v : Int} {e : T} {y : TV} {F : List Nat} {g1 g2 g3 : Nat} (o : Own w e y F) (hF : Fresh lo w.heap.size F) (hlo : lo ≤ w.heap.size) (hb : Below w.heap.size w w') (h1 : w.heap.size ≤ g1) (h12 : g1 < g2) (h23 : g2 < g3) (h3 : g3 < w'.heap.size)
    (r1 : RowAt w' g1 [y]) (r2 : RowAt w' g2 [nodeTV 10 0 g1 1]) (r3 : RowAt w' g3 [nodeTV 14 0 g2 1]) (hv : v = 1 ∨ v = 2) :
    Own w' (T.defT v e) (nodeTV 23 v g3 1) ([g3] ++ ([g2] ++ ([g1] ++ F))) ∧ Fresh lo w'.heap.size ([g3] ++ ([g2] ++ ([g1] ++ F))) := by
  have oe : Own w' e y F := o.below hF hb (Nat.le_refl _)
  have a1 := node_own (k := 10) (n := 0) (ownK1 oe) r1 (by decide) (by decide) (by decide) (by decide) (by simp)
  have a2 := node_own (k := 14) (n := 0) (ownK1 a1) r2 (by decide) (by decide) (by decide) (by decide) (by simp)
  have a3 := node_own (k := 23) (n := v) (ownK1 a2) r3 (by decide) (by decide) (by omega) (by omega) (by simp)
  exact ⟨a3, ((hF.cons (hi' := g1 + 1) hlo h1 (by omega)).cons (hi' := g2 + 1) (by omega) (by omega) (by omega)).cons (by omega) (by omega) h3⟩

/-- Copy of a term that is not too great. -/
def CopyPost (t : T) (w : World) (e : Ending) (w' : World) : Prop := ∃ y F, e = .returned (.tuple #[y.val, .int .i64 0]) ∧ Own w' t y F ∧ Fresh w.heap.size w'.heap.size F ∧ Below w.heap.size w w'
theorem T.nodes_fits {t : T} (h : t.fits) : t.nodes ≤ 4096 := h.1
set_option maxHeartbeats 1000000 in
theorem copy_calls (t : T) (x : TV) (B : Nat) (w : World) (hr : Rep w B t x) (hB : B ≤ w.heap.size) (hf : t.fits) :
    Calls Tryz.prog 72 #[x.val] w (CopyPost t w) := by
  have hb0 : Below w.heap.size w ((w.alloc (.cells x.cells 29)).alloc (.cells #[.int .i64 0, .string ⟨#[]⟩, .int .i64 0, .slice none 0 0, .slice none 0 0, .slice none 0 0] 29)) := by go_grown
  have hbox0 := (Box.new w x 29).alloc (.cells #[.int .i64 0, .string ⟨#[]⟩, .int .i64 0, .slice none 0 0, .slice none 0 0, .slice none 0 0] 29)
  have hres0 := Box.new (w.alloc (.cells x.cells 29)) zeroTV 29
  have HG := Lib.hid (fun W (h : Below w.heap.size w W) => great_known (v := false) (by simp [hf]) hr hB h)
  have HT := Lib.hid (twin_all t hf.1)
  have HR := Lib.hid hr
  simp only [TV.cells, zeroTV, World.size_alloc] at hb0 hbox0 hres0
  have HB0 := Lib.hid hb0
  have HBOX0 := Lib.hid hbox0
  have HRES0 := Lib.hid hres0
  clear hb0 hbox0 hres0 hr hf
  simp only [TV.val, TV.cells]
  go_enter Tryz.func72, Tryz.ntmps72
  go_wp2_with fail
  refine (HG.out _ HB0.out).mono ?_
  rintro e w1 ⟨rfl, hb1⟩
  have HB1 := Lib.hid (HB0.out.trans (hb1.mono (by simp; omega)))
  have HBOX1 := Lib.hid (HBOX0.out.below hb1 (by simp; omega))
  have HRES1 := Lib.hid (HRES0.out.below hb1 (by simp))
  have hz1 := HRES1.out.lt
  obtain ⟨k0, k1, k2, k3, k4, k5, kf⟩ := HBOX1.out
  clear hb1
  go_wp2_with fail
  have H2 := HT.out x B w1 (HR.out.below HB1.out hB) (Nat.le_trans hB HB1.out.size)
  simp only [TV.val, TV.cells] at H2
  refine H2.mono ?_
  rintro e w2 ⟨y, F, rfl, hO, hF, hb2⟩
  have HB2 := Lib.hid (HB1.out.trans (hb2.mono HB1.out.size))
  have HRES2 := Lib.hid (HRES1.out.below hb2 hz1)
  have HO := Lib.hid hO
  have HF := Lib.hid hF
  obtain ⟨r0, r1, r2, r3, r4, r5, rf⟩ := HRES2.out
  try simp only at r0 r1 r2 r3 r4 r5
  clear hb2 hO hF k0 k1 k2 k3 k4 k5 kf H2
  simp only [TV.val, TV.cells]
  go_wp2_with fail
  refine bodyPost_ret (v := .tuple #[y.val, .int .i64 0]) (by simp [results, Tryz.results72, TV.val, TV.cells, r0, r1, r2, r3, r4, r5, rf, go_sem]) rfl ?_
  refine ⟨y, F, rfl, Own.kept _ _ _ HO.out (fun b hb => ?_), HF.out.mono (by omega) ?_, ?_⟩
  · have := HF.out.lo b hb
    iterate 6 (refine (Below.heap_setCell _ _ _ _ (fun e => by simp only at e; omega)).trans ?_)
    rfl
  · simp [World.setCell]
  · iterate 6 (refine Below.setCell ?_ (by simp) _)
    exact HB2.out

end Go.Proofs.YtnnhbpgpkpbinaaGreat

namespace Go.Proofs.YtnnhbpgpkpbinaaGreat
open Go.RowKit

set_option maxHeartbeats 1000000 in
theorem etwin_calls (t : T) (x : TV) (B : Nat) (w : World) (hr : Rep w B t x) (hB : B ≤ w.heap.size) (hf : t.fits) :
    Calls Tryz.prog 52 #[x.val] w (TwinPost t w) := by
  have hb0 : Below w.heap.size w ((w.alloc (.cells x.cells 29)).alloc (.cells #[.int .i64 0, .string ⟨#[]⟩, .int .i64 0, .slice none 0 0, .slice none 0 0, .slice none 0 0] 29)) := by go_grown
  have hres0 := Box.new (w.alloc (.cells x.cells 29)) zeroTV 29
  simp only [TV.cells, zeroTV, World.size_alloc] at hb0 hres0
  have HB0 := Lib.hid hb0
  have HRES0 := Lib.hid hres0
  have HC := Lib.hid (fun W (h : Below w.heap.size w W) => copy_calls t x B W (hr.below h hB) (Nat.le_trans hB h.size) hf)
  simp only [TV.val, TV.cells] at HC
  clear hb0 hres0 hr hf
  simp only [TV.val, TV.cells]
  go_enter Tryz.func52, Tryz.ntmps52
  go_wp2_with fail
  refine (HC.out _ HB0.out).mono ?_
  rintro e w1 ⟨y, F, rfl, hO, hF, hb1⟩
  have HB1 := Lib.hid (HB0.out.trans (hb1.mono (by simp; omega)))
  have HRES1 := Lib.hid (HRES0.out.below hb1 (by simp))
  have hz1 := HRES1.out.lt
  have hx1 : ¬ w.heap.size + 1 = w1.heap.size := by omega
  have hx2 : ¬ w1.heap.size = w.heap.size + 1 := by omega
  have HO := Lib.hid hO
  have HF := Lib.hid (show Fresh (w.heap.size + 2) w1.heap.size F from by simpa using hF)
  obtain ⟨r0, r1, r2, r3, r4, r5, rf⟩ := HRES1.out
  try simp only at r0 r1 r2 r3 r4 r5
  clear hb1 hO hF
  simp only [TV.val, TV.cells]
  go_upto_region 2 with fail
  have hby := Box.new w1 y 29
  have hr2 := HRES1.out.alloc (.cells y.cells 29)
  have hb2 := (Below.refl w1.heap.size w1).alloc (Nat.le_refl _) (.cells y.cells 29)
  have ho2 := HO.out.below HF.out hb2 (Nat.le_refl _)
  have hz2 : w1.heap.size ≤ (w1.alloc (.cells y.cells 29)).heap.size := hb2.size
  simp only [TV.cells] at hby hr2 hb2 ho2 hz2
  clear r0 r1 r2 r3 r4 r5 rf
  generalize w1.alloc (.cells #[.int .i64 y.kind, .string y.text, .int .i64 y.n, .slice y.sa y.sl y.sc, .slice y.aa y.al y.ac, .slice y.ka y.kl y.kc] 29) = w2 at hby hr2 hb2 ho2 hz2 ⊢
  have HB2 := Lib.hid (HB1.out.trans (hb2.mono HB1.out.size))
  have HO2 := Lib.hid ho2
  obtain ⟨r0, r1, r2, r3, r4, r5, rf⟩ := hr2
  obtain ⟨q0, q1, q2, q3, q4, q5, qf⟩ := hby
  try simp only at r0 r1 r2 r3 r4 r5
  clear hb2 ho2
  go_wp2_with fail
  refine bodyPost_ret (v := y.val) (by simp [results, Tryz.results52, TV.val, TV.cells, r0, r1, r2, r3, r4, r5, rf, q0, q1, q2, q3, q4, q5, go_sem]) rfl ?_
  refine ⟨y, F, rfl, Own.kept _ _ _ HO2.out (fun b hb => ?_), HF.out.mono (by omega) ?_, ?_⟩
  · have := HF.out.lo b hb
    iterate 6 (refine (Below.heap_setCell _ _ _ _ (fun e => by simp only at e; omega)).trans ?_)
    rfl
  · simpa [World.setCell] using hz2
  · iterate 6 (refine Below.setCell ?_ (by simp) _)
    exact HB2.out
end Go.Proofs.YtnnhbpgpkpbinaaGreat

namespace Go.Proofs.YtnnhbpgpkpbinaaGreat
open Go.RowKit Go.WideMaps Go.Maps

/-- a function value, as it is held -/
def Rv (v : Value) : Option (DataW Value × List MemPlace) := some (.held v, [])
def clo (k cb : Nat) : Value := .func (.func k) #[] #[.pointer (some ⟨cb, 0, none⟩)]
/-- what opens a kind -/
def openers (cb : Nat) : List (Int × Value) :=
  [(22, .func (.func 51) #[] #[]), (27, clo 53 cb), (29, clo 48 cb), (46, clo 48 cb), (31, clo 48 cb), (39, clo 57 cb), (40, clo 58 cb), (44, clo 59 cb), (45, clo 60 cb), (43, clo 61 cb), (36, clo 62 cb), (37, clo 63 cb)]
def putAllV (m : DataW Value) (l : List (Int × Value)) : DataW Value := l.foldl (fun m e => m.put (.int .i64 e.1) (.held e.2)) m
/-- an expander lies in three blocks -/
structure ExpAt (w : World) (eb mb cb : Nat) : Prop where
  c : w.cell? ⟨cb, 0, none⟩ = some (.pointer (some ⟨eb, 0, none⟩))
  e : w.cell? ⟨eb, 0, none⟩ = some (.map (some mb))
  m : w.ownsMap Tryz.prog 3 Rv mb 12 (putAllV (.map []) (openers cb))
theorem ExpAt.below {w w' : World} {eb mb cb B : Nat} (h : ExpAt w eb mb cb) (hb : Below B w w') (h1 : eb < B) (h2 : mb < B) (h3 : cb < B) : ExpAt w' eb mb cb := by
  refine ⟨(hb.cell (p := ⟨cb, 0, none⟩) h3).trans h.c, (hb.cell (p := ⟨eb, 0, none⟩) h1).trans h.e, ?_⟩
  obtain ⟨es, clock, hh, F, hs, hD⟩ := h.m
  exact ⟨es, clock, (hb.block mb h2).trans hh, F, hs, hD⟩

theorem wpList_insert_own {H : Type} {P : Program} (w : World) {ops : Array Oper} {rest : List Oper} {o : Oper} {a : Act} {Q : Exit → Act → World → Prop}
    (hg : o.guard = none) (m x v : Operand) (t : TypeId) (hop : o.op = Op.insert t m x v)
    (k e : TypeId) (K : Keyed P k) (ht : P.underlying t = some (.map k e)) (R : Value → Option (DataW H × List MemPlace)) (b n : Nat) (D : DataW H)
    (hm : a.eval m = .map (some b)) (hown : w.ownsMap P k R b n D) (hn : n < maxLen) (key val : Value) (kl : Lit) (hx : a.eval x = key) (hv : a.eval v = val) (hkey : keyOf P k key = some kl)
    (d : DataW H) (ps : List MemPlace) (hval : R val = some (d, ps))
    (hK : ∀ w', w'.ownsMap P k R b (n + 1) (D.put kl d) → w.grownBy w' (some b) → wpList P ops Q rest (a.put o.dst undef) w') :
    wpList P ops Q (o :: rest) a w := by
  refine wpList_plain hg fun K' hK' => ?_
  obtain ⟨w', hrun, r1, r2⟩ := hown.update K ht hn hkey hval
  unfold Oper.wp
  simp [execOp, hop, hm, hx, hv, hrun, Result.andThen]
  exact hK' _ _ (hK w' r1 r2)
theorem law_int : Keyed Tryz.prog 3 := int_keyed Tryz.underlying3

/-- while the map is filled -/
structure Fills (w : World) (eb cb mb : Nat) (wr : World) : Prop where
  below : Below w.heap.size w wr
  c : wr.cell? ⟨cb, 0, none⟩ = some (.pointer (some ⟨eb, 0, none⟩))
  e : wr.cell? ⟨eb, 0, none⟩ = some (.map none)
  f : wr.frozen? ⟨eb, 0, none⟩ = false
theorem Fills.step {w wr w2 : World} {eb cb mb : Nat} (h : Fills w eb cb mb wr) (hg : wr.grownBy w2 (some mb)) (hm : w.heap.size ≤ mb) (h1 : cb ≠ mb) (h2 : eb ≠ mb) (h3 : eb < wr.heap.size) : Fills w eb cb mb w2 := by
  obtain ⟨a, b, c, d⟩ := h
  exact ⟨a.grown hg a.size (fun j hj => by cases hj; exact hm), hg.cell b (by simpa using h1), hg.cell c (by simpa using h2), (World.frozen?_of_block (a := ⟨eb, 0, none⟩) (hg.block eb h3 (by simpa using h2))).trans d⟩

def BegunPost (w : World) (e : Ending) (w' : World) : Prop :=
  ∃ eb mb cb, e = .returned (.pointer (some ⟨eb, 0, none⟩)) ∧ ExpAt w' eb mb cb ∧ Below w.heap.size w w' ∧ (eb < w'.heap.size ∧ mb < w'.heap.size ∧ cb < w'.heap.size)

set_option maxRecDepth 100000 in
set_option maxHeartbeats 4000000 in
theorem begun_calls (w : World) : Calls Tryz.prog 27 #[] w (BegunPost w) := by
  have hmm := @run_makeMap Tryz.prog
  go_enter Tryz.func27, Tryz.ntmps27
  have hm0 : (((w.alloc (.cells #[.map none] 81)).alloc (.cells #[.pointer (some ⟨w.heap.size, 0, none⟩)] 57)).alloc (.map #[] 0)).ownsMap Tryz.prog 3 Rv (w.heap.size + 1 + 1) 0 (.map []) := by
    have := World.ownsMap_made ((w.alloc (.cells #[.map none] 81)).alloc (.cells #[.pointer (some ⟨w.heap.size, 0, none⟩)] 57)) Tryz.prog 3 Rv
    simpa using this
  have hx0 : Fills w w.heap.size (w.heap.size + 1) (w.heap.size + 1 + 1) (((w.alloc (.cells #[.map none] 81)).alloc (.cells #[.pointer (some ⟨w.heap.size, 0, none⟩)] 57)).alloc (.map #[] 0)) :=
    ⟨by go_grown, by simp [go_sem], by simp [go_sem], by simp [go_sem]⟩
  have HM := Lib.hid hm0
  have HX := Lib.hid hx0
  clear hm0 hx0
  go_wp2_with (refine wpList_insert_own _ rfl _ _ _ 79 rfl 3 84 law_int Tryz.underlying79 Rv (w.heap.size + 1 + 1) _ _ rfl HM.out (by unfold maxLen; decide) _ _ _ rfl rfl (keyOf_int_mk Tryz.underlying3 (by decide)) (.held _) [] rfl ?_; intro w1 hown hgrow; have HX2 := Lib.hid (HX.out.step hgrow (by omega) (by omega) (by omega) (World.block_lt_of_cell? _ _ HX.out.e)); clear HX HM; have HX := HX2; have HM := Lib.hid hown; clear hown hgrow HX2; (try clear xc xe xf); have xc := HX.out.c; have xe := HX.out.e; have xf := HX.out.f)
  go_ret
  have hbx : w.heap.size + 1 + 1 < w1.heap.size := HM.out.lt
  refine ⟨w.heap.size, w.heap.size + 1 + 1, w.heap.size + 1, rfl, ⟨?_, ?_, ?_⟩, HX.out.below.setCell (by simp) _, ?_⟩
  · simp [xc, go_sem]
  · simp [xe, go_sem]
  · exact World.ownsMap.kept HM.out (grown_set w1 w.heap.size 0 _) (by simp; omega)
  · simp [World.setCell]; omega
end Go.Proofs.YtnnhbpgpkpbinaaGreat

namespace Go.Proofs.YtnnhbpgpkpbinaaGreat
open Go.RowKit Go.WideMaps Go.Maps

/-- what opens a kind, or nil -/
def opener (cb : Nat) (k : Int) : Value := (((openers cb).reverse.find? (fun e => e.1 == k)).map (·.2)).getD .nilFunc
theorem putAllV_gen (k : Int) (z : DataW Value) (l : List (Int × Value)) : ∀ m : DataW Value, IsMap m → (putAllV m l).atKey (.int .i64 k) z = match l.reverse.find? (fun e => e.1 == k) with | some e => .held e.2 | none => m.atKey (.int .i64 k) z := by
  induction l with
  | nil => exact fun m _ => rfl
  | cons e l ih =>
    intro m hm
    have h := ih (m.put (.int .i64 e.1) (.held e.2)) (hm.put _ _)
    show (putAllV (m.put (.int .i64 e.1) (.held e.2)) l).atKey (.int .i64 k) z = _
    rw [h, List.reverse_cons, List.find?_append]
    cases hf : l.reverse.find? (fun e => e.1 == k) with
    | some x => rfl
    | none =>
      by_cases he : e.1 = k
      · subst he
        simp [atKey_put_same hm (show WideAt.IsKeyLit (.int .i64 e.1) from trivial)]
      · have : (Lit.int .i64 k) ≠ .int .i64 e.1 := fun h => he (by injection h with _ h; exact h.symm)
        simp [atKey_put_other this, he]
theorem table_at (cb : Nat) (k : Int) : (putAllV (.map []) (openers cb)).atKey (.int .i64 k) (.held .nilFunc) = .held (opener cb k) := by
  rw [putAllV_gen k _ _ _ isMap_empty, opener]
  cases (openers cb).reverse.find? (fun e => e.1 == k) <;> rfl
theorem zero_opener (w : World) : (zeroValue 84).run Tryz.prog w = .ok .nilFunc w := by kernel_rfl
theorem lookup_run {w : World} {mb cb : Nat} {k : Int} (h : w.ownsMap Tryz.prog 3 Rv mb 12 (putAllV (.map []) (openers cb))) (h0 : -9223372036854775808 ≤ k) (h1 : k ≤ 9223372036854775807) :
    (Instr.lookup 79 (.map (some mb)) (.int .i64 k) false).run Tryz.prog w = .ok (opener cb k) w := by
  obtain ⟨v, ps, hrun, hv⟩ := h.lookup law_int Tryz.underlying79 (zero_opener w) (show Rv .nilFunc = some (.held .nilFunc, []) from rfl) (keyOf_int_mk Tryz.underlying3 (WalkArith.wf_i64 ⟨h0, h1⟩))
  rw [table_at] at hv
  have e : v = opener cb k := by
    simp only [Rv, Option.some.injEq, Prod.mk.injEq] at hv
    injection hv.1
  rw [hrun, e]
theorem neqO_nil (w : World) : (binOp .neq 84 .nilFunc .nilFunc).run Tryz.prog w = .ok (.bool false) w := by kernel_rfl
theorem neqO_func (k : Nat) (c : Array Value) (w : World) : (binOp .neq 84 (.func (.func k) #[] c) .nilFunc).run Tryz.prog w = .ok (.bool true) w := by kernel_rfl
/-- the kinds whose opening hangs on the map -/
def mapKinds : List Int := [22, 27, 29, 46, 44, 45, 43, 36, 37]
theorem opener_some (cb : Nat) {k : Int} (h : k ∈ mapKinds) : ∃ j c, opener cb k = .func (.func j) #[] c := by
  simp only [mapKinds, List.mem_cons, List.not_mem_nil, or_false] at h
  rcases h with rfl | rfl | rfl | rfl | rfl | rfl | rfl | rfl | rfl <;> exact ⟨_, _, rfl⟩
theorem opener_none (cb : Nat) {k : Int} (h : k ∉ mapKinds) (h1 : k ≠ 31) (h2 : k ≠ 39) (h3 : k ≠ 40) : opener cb k = .nilFunc := by
  simp only [mapKinds, List.mem_cons, List.not_mem_nil, or_false, not_or] at h
  obtain ⟨a, b, c, d, e, f, g, i, j⟩ := h
  have ne : ∀ n : Int, k ≠ n → (n == k) = false := fun n hn => by simp; exact fun e => hn e.symm
  simp [opener, openers, ne _ a, ne _ b, ne _ c, ne _ d, ne _ e, ne _ f, ne _ g, ne _ i, ne _ j, ne _ h1, ne _ h2, ne _ h3]
theorem opensK_map {k v : Int} {s : List UInt8} (h : k ∈ mapKinds) : T.opensK k s v = true := by
  simp only [mapKinds, List.mem_cons, List.not_mem_nil, or_false] at h
  rcases h with rfl | rfl | rfl | rfl | rfl | rfl | rfl | rfl | rfl <;> rfl
theorem opensK_not {k v : Int} {s : List UInt8} (h : k ∉ mapKinds) (h0 : k ≠ 20) (h1 : k ≠ 31) (h2 : k ≠ 39) (h3 : k ≠ 40) : T.opensK k s v = false := by
  simp only [mapKinds, List.mem_cons, List.not_mem_nil, or_false, not_or] at h
  obtain ⟨a, b, c, d, e, f, g, i, j⟩ := h
  simp [T.opensK, a, b, c, d, e, f, g, i, j, h0, h1, h2, h3]

def OpensPost (b : Bool) (w : World) (e : Ending) (w' : World) : Prop := e = .returned (.bool b) ∧ Below w.heap.size w w'
theorem OpensPost.mk' {a b : Bool} {w w' : World} (h : a = b) (hb : Below w.heap.size w w') : OpensPost b w (.returned (.bool a)) w' := ⟨by rw [h], hb⟩

set_option maxHeartbeats 2000000 in
theorem opens_calls (x : TV) (v : Int) (eb mb cb : Nat) (w : World) (hE : ExpAt w eb mb cb) (h0 : -9223372036854775808 ≤ x.kind) (h1 : x.kind ≤ 9223372036854775807) :
    Calls Tryz.prog 64 #[.pointer (some ⟨eb, 0, none⟩), x.val, .int .i64 v] w (OpensPost (T.opensK x.kind x.text.data.toList v) w) := by
  simp only [TV.val, TV.cells]
  by_cases k20 : x.kind = 20
  · have HO := Lib.hid (show T.opensK x.kind x.text.data.toList v = ((x.text.toList == [91]) || (x.text.toList == [93])) from by rw [k20, ByteArray.toList_eq]; rfl)
    cases hx1 : (x.text.toList == [91])
    all_goals
      rw [k20]
      rw [hx1, k20] at HO
      go_enter Tryz.func64, Tryz.ntmps64
      go_wp2_with fail
      all_goals go_ret
      all_goals exact OpensPost.mk' (by rw [HO.out]; simp_all) (by go_grown)
  by_cases k3 : x.kind = 31 ∨ x.kind = 39 ∨ x.kind = 40
  · have HO := Lib.hid (show T.opensK x.kind x.text.data.toList v = (v == 1) from by simp only [T.opensK, k20, k3, if_false, if_true])
    rcases k3 with k3 | k3 | k3
    all_goals
      rw [k3] at HO ⊢
      go_enter Tryz.func64, Tryz.ntmps64
      go_wp2_with fail
      all_goals go_ret
      all_goals exact OpensPost.mk' (by rw [HO.out]) (by go_grown)
  have hne : ∀ n : Int, ¬ x.kind = n → (x.kind == n) = false := fun n h => by simp [h]
  have d20 := hne 20 k20
  have d31 := hne 31 (fun h => k3 (.inl h))
  have d39 := hne 39 (fun h => k3 (.inr (.inl h)))
  have d40 := hne 40 (fun h => k3 (.inr (.inr h)))
  have hm1 := hE.m.alloc (.cells #[.int .i64 x.kind, .string x.text, .int .i64 x.n, .slice x.sa x.sl x.sc, .slice x.aa x.al x.ac, .slice x.ka x.kl x.kc] 29)
  have hrun := lookup_run hm1 h0 h1
  have hrun2 := fun n : Nat => lookup_run (w := (w.alloc (.cells #[.int .i64 x.kind, .string x.text, .int .i64 x.n, .slice x.sa x.sl x.sc, .slice x.aa x.al x.ac, .slice x.ka x.kl x.kc] 29)).drewN n) (mb := mb) (cb := cb) hm1 h0 h1
  have he := hE.e
  have hbw := World.block_lt_of_cell? _ _ he
  by_cases hm : x.kind ∈ mapKinds
  · obtain ⟨j, c, hv⟩ := opener_some cb hm
    have HO := Lib.hid (opensK_map (v := v) (s := x.text.data.toList) hm)
    rw [hv] at hrun
    simp only [hv] at hrun2
    have hq := neqO_func j c
    clear hm hv hm1 hE k20 k3 hne
    go_enter Tryz.func64, Tryz.ntmps64
    go_wp2_with fail
    go_quiet (fail)
    go_wp2_with fail
    go_ret
    exact OpensPost.mk' (by rw [HO.out]) (below_drewN (by go_grown) _)
  · have hv := opener_none cb hm (fun h => k3 (.inl h)) (fun h => k3 (.inr (.inl h))) (fun h => k3 (.inr (.inr h)))
    have HO := Lib.hid (opensK_not (v := v) (s := x.text.data.toList) hm k20 (fun h => k3 (.inl h)) (fun h => k3 (.inr (.inl h))) (fun h => k3 (.inr (.inr h))))
    rw [hv] at hrun
    simp only [hv] at hrun2
    have hq := neqO_nil
    clear hm hv hm1 hE k20 k3 hne
    go_enter Tryz.func64, Tryz.ntmps64
    go_wp2_with fail
    go_quiet (fail)
    go_wp2_with fail
    go_ret
    exact OpensPost.mk' (by rw [HO.out]) (below_drewN (by go_grown) _)
end Go.Proofs.YtnnhbpgpkpbinaaGreat

namespace Go.Proofs.YtnnhbpgpkpbinaaGreat
open Go.RowKit

/-- a verb as noun and other take it -/
structure Verb (t : T) : Prop where
  cls : T.cls t.kind = 3
  good : T.good t false = true
  fits : t.fits
def NounAll (t : T) : Prop := Verb t → ∀ (x : TV) (B : Nat) (v : Int) (eb mb cb : Nat) (w : World), Rep w B t x → B ≤ w.heap.size → ExpAt w eb mb cb → (v = 1 ∨ v = 2) →
  Calls Tryz.prog 28 #[.pointer (some ⟨eb, 0, none⟩), x.val, .int .i64 v] w (TwinPost (T.noun t v) w)
def OtherAll (t : T) : Prop := Verb t → ∀ (x : TV) (B : Nat) (v : Int) (eb mb cb : Nat) (w : World), Rep w B t x → B ≤ w.heap.size → ExpAt w eb mb cb → (v = 1 ∨ v = 2) →
  Calls Tryz.prog 50 #[.pointer (some ⟨eb, 0, none⟩), x.val, .int .i64 v] w (TwinPost (T.other t v) w)
theorem ExpAt.lt {w : World} {eb mb cb : Nat} (h : ExpAt w eb mb cb) : eb < w.heap.size ∧ mb < w.heap.size ∧ cb < w.heap.size :=
  ⟨World.block_lt_of_cell? _ _ h.e, h.m.lt, World.block_lt_of_cell? _ _ h.c⟩
/-- below a world nothing has turned: what noun answers there -/
theorem noun_later {t : T} (h : NounAll t) (hv : Verb t) {x : TV} {B eb mb cb : Nat} {v : Int} {w W : World} (hr : Rep w B t x) (hB : B ≤ w.heap.size) (hE : ExpAt w eb mb cb) (hb : Below w.heap.size w W) (h2 : v = 1 ∨ v = 2) :
    Calls Tryz.prog 28 #[.pointer (some ⟨eb, 0, none⟩), .agg #[.int .i64 x.kind, .string x.text, .int .i64 x.n, .slice x.sa x.sl x.sc, .slice x.aa x.al x.ac, .slice x.ka x.kl x.kc], .int .i64 v] W (TwinPost (T.noun t v) W) :=
  h hv x B v eb mb cb W (hr.below hb hB) (Nat.le_trans hB hb.size) (hE.below hb hE.lt.1 hE.lt.2.1 hE.lt.2.2) h2
theorem other_later {t : T} (h : OtherAll t) (hv : Verb t) {x : TV} {B eb mb cb : Nat} {v : Int} {w W : World} (hr : Rep w B t x) (hB : B ≤ w.heap.size) (hE : ExpAt w eb mb cb) (hb : Below w.heap.size w W) (h2 : v = 1 ∨ v = 2) :
    Calls Tryz.prog 50 #[.pointer (some ⟨eb, 0, none⟩), .agg #[.int .i64 x.kind, .string x.text, .int .i64 x.n, .slice x.sa x.sl x.sc, .slice x.aa x.al x.ac, .slice x.ka x.kl x.kc], .int .i64 v] W (TwinPost (T.other t v) W) :=
  h hv x B v eb mb cb W (hr.below hb hB) (Nat.le_trans hB hb.size) (hE.below hb hE.lt.1 hE.lt.2.1 hE.lt.2.2) h2
theorem twin_later {t : T} (hf : t.fits) {x : TV} {B : Nat} {w W : World} (hr : Rep w B t x) (hB : B ≤ w.heap.size) (hb : Below w.heap.size w W) :
    Calls Tryz.prog 52 #[.agg #[.int .i64 x.kind, .string x.text, .int .i64 x.n, .slice x.sa x.sl x.sc, .slice x.aa x.al x.ac, .slice x.ka x.kl x.kc]] W (TwinPost t W) :=
  etwin_calls t x B W (hr.below hb hB) (Nat.le_trans hB hb.size) hf
theorem Box.drew {w : World} {b : Nat} {x : TV} (h : Box w b x) : Box w.drew b x := ⟨h.c0, h.c1, h.c2, h.c3, h.c4, h.c5, h.f⟩
theorem Own.later {w w' : World} {t : T} {x : TV} {F : List Nat} {B : Nat} (h : Own w t x F) (hF : ∀ c ∈ F, c < B) (hb : Below B w w') : Own w' t x F := Own.kept t x F h (fun c hc => hb.block c (hF c hc))
theorem left_own (w : World) (v : Int) : Own w (T.leftT v) (leafTV 2 (leftB v)) [] := by
  unfold T.leftT leftB
  split
  · exact leaf_own w 2 ⟨#[120]⟩ (by decide) (by decide) (by decide)
  · exact leaf_own w 2 ⟨#[121]⟩ (by decide) (by decide) (by decide)
/-- the result's variable written: what is handed back -/
theorem new_ends {u : T} {w w3 : World} {y : TV} {F : List Nat} (hO : Own w3 u y F) (hF : Fresh (w.heap.size + 1) w3.heap.size F) (hB : Below w.heap.size w w3) (a0 a1 a2 a3 a4 a5 : Value) :
    TwinPost u w (.returned y.val) ((((((w3.setCell ⟨w.heap.size, 0, none⟩ a0).setCell ⟨w.heap.size, 1, none⟩ a1).setCell ⟨w.heap.size, 2, none⟩ a2).setCell ⟨w.heap.size, 3, none⟩ a3).setCell ⟨w.heap.size, 4, none⟩ a4).setCell ⟨w.heap.size, 5, none⟩ a5) := by
  refine ⟨y, F, rfl, Own.kept _ _ _ hO (fun b hb => ?_), hF.mono (by omega) ?_, ?_⟩
  · have := hF.lo b hb
    iterate 6 (refine (Below.heap_setCell _ _ _ _ (fun e => by simp only at e; omega)).trans ?_)
    rfl
  · simp [World.setCell]
  · iterate 6 (refine Below.setCell ?_ (by simp) _)
    exact hB
end Go.Proofs.YtnnhbpgpkpbinaaGreat
