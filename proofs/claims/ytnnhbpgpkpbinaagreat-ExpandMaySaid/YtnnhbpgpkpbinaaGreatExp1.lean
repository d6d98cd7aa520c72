/- Package expand: the small makers. -/
import Derived.Test.YtnnhbpgpkpbinaaGreatTwin2
import Derived.Test.YtnnhbpgpkpbinaaGreatTerm12
namespace Go.Proofs.YtnnhbpgpkpbinaaGreat
open Go.RowKit

/-- a node without text and numbers, its kids in a row of their own -/
def nodeTV (k n : Int) (g len : Nat) : TV := ⟨k, ⟨#[]⟩, n, none, 0, 0, none, 0, 0, some ⟨g, 0, none⟩, len, len⟩
def leafTV (k : Int) (s : ByteArray) : TV := ⟨k, s, 0, none, 0, 0, none, 0, 0, none, 0, 0⟩
/-- a block that is a row of terms -/
def RowAt (w : World) (g : Nat) (ys : List TV) : Prop := w.heap[g]? = some (.cells (rowCells ys).toArray 29 (0, 0))
theorem RowAt.below {w w' : World} {g B : Nat} {ys : List TV} (h : RowAt w g ys) (hb : Below B w w') (hg : g < B) : RowAt w' g ys := (hb.block g hg).trans h
theorem rowAt_new {W : World} {cs : Array Value} {n : Nat} {ys : List TV} (hn : n = W.heap.size) (hc : cs = (rowCells ys).toArray) : RowAt (W.alloc (.cells cs 29)) n ys := by
  subst hn hc
  show (W.heap.push _)[W.heap.size]? = _
  simp
theorem rowAt_alloc {W : World} {g : Nat} {ys : List TV} {o : Obj} (h : RowAt W g ys) (hg : g < W.heap.size) : RowAt (W.alloc o) g ys := (Below.heap_alloc W o g hg).trans h
theorem RowAt.cell {w : World} {g : Nat} {ys : List TV} (h : RowAt w g ys) (j : Nat) (u : Value) (hu : (rowCells ys)[j]? = some u) : w.cell? ⟨g, j, none⟩ = some u := by
  unfold RowAt at h
  simp [World.cell?, h, hu]
theorem leaf_own (w : World) (k : Int) (s : ByteArray) (hs : s.size ≤ 140737488355328) (h0 : -9223372036854775808 ≤ k) (h1 : k ≤ 9223372036854775807) : Own w (.mk k s 0 [] [] []) (leafTV k s) [] := by
  simp only [Own]
  refine ⟨⟨h0, h1, (by show (-9223372036854775808 : Int) ≤ 0; decide), (by show (0 : Int) ≤ 9223372036854775807; decide), hs, Nat.le_refl _, Nat.le_refl _, Nat.le_refl _, Nat.zero_le _, Nat.zero_le _, Nat.zero_le _, Nat.zero_le _, Nat.zero_le _, Nat.zero_le _⟩, rfl, rfl, rfl, rfl, [], [], [], [], rfl, ?_, ?_, .inl ⟨rfl, rfl, rfl⟩, rfl⟩
  · exact ⟨rfl, .inl ⟨rfl, rfl, rfl⟩, fun b e => by cases e⟩
  · exact ⟨rfl, .inl ⟨rfl, rfl, rfl⟩, fun b e => by cases e⟩
theorem node_own {w : World} {k n : Int} {g : Nat} {l : List T} {ys : List TV} {FK : List Nat} (hk : OwnK w l ys FK) (hr : RowAt w g ys) (h0 : -9223372036854775808 ≤ k) (h1 : k ≤ 9223372036854775807) (h2 : -9223372036854775808 ≤ n) (h3 : n ≤ 9223372036854775807) (hl : l.length ≤ 4096) :
    Own w (.mk k (T.txt []) n [] [] l) (nodeTV k n g l.length) ([g] ++ FK) := by
  have hlen := hk.len
  simp only [Own]
  refine ⟨⟨h0, h1, h2, h3, Nat.zero_le _, Nat.le_refl _, Nat.le_refl _, Nat.le_refl _, Nat.zero_le _, Nat.zero_le _, ?_, Nat.zero_le _, Nat.zero_le _, ?_⟩, rfl, rfl, rfl, rfl, [], [], [g], FK, rfl, ?_, ?_, .inr ⟨g, _, rfl, rfl, hr, Nat.le_refl _, ?_, ?_⟩, ?_⟩
  · show l.length ≤ 2199023255552; omega
  · show l.length ≤ maxLen; unfold maxLen; omega
  · exact ⟨rfl, .inl ⟨rfl, rfl, rfl⟩, fun b e => by cases e⟩
  · exact ⟨rfl, .inl ⟨rfl, rfl, rfl⟩, fun b e => by cases e⟩
  · show l.length ≤ maxLen; unfold maxLen; omega
  · show l.length * 6 ≤ _; simp [rowCells_len, hlen]
  · exact hk.laid 0 (fun j u hu => by rw [Nat.zero_mul, Nat.zero_add]; exact hr.cell j u hu)

theorem name_calls (s : ByteArray) (w : World) :
    Calls Tryz.prog 55 #[.string s] w fun e w' => e = .returned (leafTV 2 s).val ∧ Below w.heap.size w w' := by
  go_enter Tryz.func55, Tryz.ntmps55
  go_wp2_with fail
  refine bodyPost_ret (v := .agg #[.int .i64 2, .string s, .int .i64 0, .slice none 0 0, .slice none 0 0, .slice none 0 0]) (by simp [results, Tryz.results55, go_sem]) rfl ?_
  exact ⟨rfl, by go_grown⟩
def leftB (v : Int) : ByteArray := if v = 2 then ⟨#[120]⟩ else ⟨#[121]⟩
theorem left_calls (v : Int) (w : World) :
    Calls Tryz.prog 56 #[.int .i64 v] w fun e w' => e = .returned (leafTV 2 (leftB v)).val ∧ Below w.heap.size w w' := by
  by_cases h : v = 2
  · have hd : (v == 2) = true := by simp [h]
    have e : leftB v = ⟨#[120]⟩ := by rw [leftB, if_pos h]
    rw [e]
    clear h e
    go_enter Tryz.func56, Tryz.ntmps56
    go_wp2_with (go_at_call 55; refine (name_calls _ _).mono ?_; rintro e w1 ⟨rfl, hb⟩; simp only [leafTV, TV.val, TV.cells]; obtain ⟨hc, hf⟩ := bcell hb; have hz : w.heap.size < w1.heap.size := by have := hb.size; simp at this; omega)
    refine bodyPost_ret (v := (leafTV 2 ⟨#[120]⟩).val) (by simp [results, Tryz.results56, leafTV, TV.val, TV.cells, hc, hf, hz, go_sem]) rfl ⟨rfl, ?_⟩
    have hb' : Below w.heap.size w w1 := ((Below.refl _ _).alloc (Nat.le_refl _) _).trans (hb.mono (by simp))
    clear hc hf hb
    go_grown
  · have hd : (v == 2) = false := by simp [h]
    have e : leftB v = ⟨#[121]⟩ := by rw [leftB, if_neg h]
    rw [e]
    clear h e
    go_enter Tryz.func56, Tryz.ntmps56
    go_wp2_with (go_at_call 55; refine (name_calls _ _).mono ?_; rintro e w1 ⟨rfl, hb⟩; simp only [leafTV, TV.val, TV.cells]; obtain ⟨hc, hf⟩ := bcell hb; have hz : w.heap.size < w1.heap.size := by have := hb.size; simp at this; omega)
    refine bodyPost_ret (v := (leafTV 2 ⟨#[121]⟩).val) (by simp [results, Tryz.results56, leafTV, TV.val, TV.cells, hc, hf, hz, go_sem]) rfl ⟨rfl, ?_⟩
    have hb' : Below w.heap.size w w1 := ((Below.refl _ _).alloc (Nat.le_refl _) _).trans (hb.mono (by simp))
    clear hc hf hb
    go_grown

set_option maxHeartbeats 1000000 in
theorem mon_calls (y1 y2 : TV) (w : World) :
    Calls Tryz.prog 49 #[y1.val, y2.val] w fun e w' => ∃ g, e = .returned (nodeTV 3 0 g 2).val ∧ w.heap.size ≤ g ∧ RowAt w' g [y1, y2] ∧ g < w'.heap.size ∧ Below w.heap.size w w' := by
  simp only [TV.val, TV.cells]
  go_enter Tryz.func49, Tryz.ntmps49
  go_wp2_with fail
  refine bodyPost_ret (v := (nodeTV 3 0 (w.heap.size + 1 + 1 + 1) 2).val) (by simp [results, Tryz.results49, nodeTV, TV.val, TV.cells, go_sem]) rfl ?_
  refine ⟨_, rfl, by omega, ?_, by simp, by go_grown⟩
  exact rowAt_new (by simp) (by simp [rowCells, TV.cells])

set_option maxHeartbeats 1000000 in
theorem dy_calls (y1 y2 y3 : TV) (w : World) :
    Calls Tryz.prog 54 #[y1.val, y2.val, y3.val] w fun e w' => ∃ g, e = .returned (nodeTV 4 0 g 3).val ∧ w.heap.size ≤ g ∧ RowAt w' g [y1, y2, y3] ∧ g < w'.heap.size ∧ Below w.heap.size w w' := by
  simp only [TV.val, TV.cells]
  go_enter Tryz.func54, Tryz.ntmps54
  go_wp2_with fail
  refine bodyPost_ret (v := (nodeTV 4 0 (w.heap.size + 1 + 1 + 1 + 1) 3).val) (by simp [results, Tryz.results54, nodeTV, TV.val, TV.cells, go_sem]) rfl ?_
  refine ⟨_, rfl, by omega, ?_, by simp, by go_grown⟩
  exact rowAt_new (by simp) (by simp [rowCells, TV.cells])

set_option maxHeartbeats 1000000 in
theorem definition_calls (v : Int) (y : TV) (w : World) :
    Calls Tryz.prog 26 #[.int .i64 v, y.val] w fun e w' => ∃ g1 g2 g3, e = .returned (nodeTV 23 v g3 1).val ∧ w.heap.size ≤ g1 ∧ g1 < g2 ∧ g2 < g3 ∧ g3 < w'.heap.size ∧ RowAt w' g1 [y] ∧ RowAt w' g2 [nodeTV 10 0 g1 1] ∧ RowAt w' g3 [nodeTV 14 0 g2 1] ∧ Below w.heap.size w w' := by
  simp only [TV.val, TV.cells]
  go_enter Tryz.func26, Tryz.ntmps26
  go_wp2_with fail
  refine bodyPost_ret (v := (nodeTV 23 v (w.heap.size + 1 + 1 + 1 + 1) 1).val) (by simp [results, Tryz.results26, nodeTV, TV.val, TV.cells, go_sem]) rfl ?_
  refine ⟨w.heap.size + 1 + 1, w.heap.size + 1 + 1 + 1, _, rfl, by omega, by omega, by omega, by simp, ?_, ?_, ?_, by go_grown⟩
  · exact rowAt_alloc (rowAt_alloc (rowAt_new (by simp) (by simp [rowCells, TV.cells])) (by simp)) (by simp)
  · exact rowAt_alloc (rowAt_new (by simp) (by simp [rowCells, TV.cells, nodeTV])) (by simp)
  · exact rowAt_new (by simp) (by simp [rowCells, TV.cells, nodeTV])

theorem Fresh.cons {lo hi hi' g : Nat} {F : List Nat} (h : Fresh lo hi F) (hlo : lo ≤ hi) (hg : hi ≤ g) (hg2 : g < hi') : Fresh lo hi' ([g] ++ F) :=
  (h.app (Fresh.one hg hg2) hlo (by omega)).perm List.perm_append_comm
/-- a node over kids of their own, its row new -/
theorem node_new {lo : Nat} {w w' : World} {k n : Int} {g : Nat} {l : List T} {ys : List TV} {FK : List Nat} (hk : OwnK w l ys FK) (hF : Fresh lo w.heap.size FK) (hb : Below w.heap.size w w') (hg : w.heap.size ≤ g) (hg2 : g < w'.heap.size) (hr : RowAt w' g ys) (hlo : lo ≤ w.heap.size)
    (h0 : -9223372036854775808 ≤ k) (h1 : k ≤ 9223372036854775807) (h2 : -9223372036854775808 ≤ n) (h3 : n ≤ 9223372036854775807) (hl : l.length ≤ 4096) :
    Own w' (.mk k (T.txt []) n [] [] l) (nodeTV k n g l.length) ([g] ++ FK) ∧ Fresh lo w'.heap.size ([g] ++ FK) :=
  ⟨node_own (hk.kept (fun b hb' => hb.block b (hF.hi b hb'))) hr h0 h1 h2 h3 hl, hF.cons hlo hg hg2⟩
theorem ownK1 {w : World} {t : T} {y : TV} {F : List Nat} (h : Own w t y F) : OwnK w [t] [y] F := ⟨F, [], by simp, h, rfl⟩
theorem ownK2 {w : World} {t u : T} {y z : TV} {F G : List Nat} (h : Own w t y F) (k : Own w u z G) : OwnK w [t, u] [y, z] (F ++ G) := ⟨F, G, rfl, h, ownK1 k⟩
theorem ownK3 {w : World} {t u x : T} {y z a : TV} {F G H : List Nat} (h : Own w t y F) (k : Own w u z G) (m : Own w x a H) : OwnK w [t, u, x] [y, z, a] (F ++ G ++ H) := ⟨F, G ++ H, by simp, h, ownK2 k m⟩
theorem mon_new {lo : Nat} {w w' : World} {v e : T} {y1 y2 : TV} {F1 F2 : List Nat} {g : Nat} (o1 : Own w v y1 F1) (o2 : Own w e y2 F2) (hF : Fresh lo w.heap.size (F1 ++ F2)) (hlo : lo ≤ w.heap.size) (hb : Below w.heap.size w w') (hg : w.heap.size ≤ g) (hg2 : g < w'.heap.size) (hr : RowAt w' g [y1, y2]) :
    Own w' (T.monT v e) (nodeTV 3 0 g 2) ([g] ++ (F1 ++ F2)) ∧ Fresh lo w'.heap.size ([g] ++ (F1 ++ F2)) :=
  node_new (ownK2 o1 o2) hF hb hg hg2 hr hlo (by decide) (by decide) (by decide) (by decide) (by simp)
theorem dy_new {lo : Nat} {w w' : World} {v l r : T} {y1 y2 y3 : TV} {F1 F2 F3 : List Nat} {g : Nat} (o1 : Own w v y1 F1) (o2 : Own w l y2 F2) (o3 : Own w r y3 F3) (hF : Fresh lo w.heap.size (F1 ++ F2 ++ F3)) (hlo : lo ≤ w.heap.size) (hb : Below w.heap.size w w') (hg : w.heap.size ≤ g) (hg2 : g < w'.heap.size) (hr : RowAt w' g [y1, y2, y3]) :
    Own w' (T.dyT v l r) (nodeTV 4 0 g 3) ([g] ++ (F1 ++ F2 ++ F3)) ∧ Fresh lo w'.heap.size ([g] ++ (F1 ++ F2 ++ F3)) :=
  node_new (ownK3 o1 o2 o3) hF hb hg hg2 hr hlo (by decide) (by decide) (by decide) (by decide) (by simp)
theorem def_new {lo : Nat} {w w' : World} {v : Int} {e : T} {y : TV} {F : List Nat} {g1 g2 g3 : Nat} (o : Own w e y F) (hF : Fresh lo w.heap.size F) (hlo : lo ≤ w.heap.size) (hb : Below w.heap.size w w') (h1 : w.heap.size ≤ g1) (h12 : g1 < g2) (h23 : g2 < g3) (h3 : g3 < w'.heap.size)
    (r1 : RowAt w' g1 [y]) (r2 : RowAt w' g2 [nodeTV 10 0 g1 1]) (r3 : RowAt w' g3 [nodeTV 14 0 g2 1]) (hv : v = 1 ∨ v = 2) :
    Own w' (T.defT v e) (nodeTV 23 v g3 1) ([g3] ++ ([g2] ++ ([g1] ++ F))) ∧ Fresh lo w'.heap.size ([g3] ++ ([g2] ++ ([g1] ++ F))) := by
  have oe : Own w' e y F := o.below hF hb (Nat.le_refl _)
  have a1 := node_own (k := 10) (n := 0) (ownK1 oe) r1 (by decide) (by decide) (by decide) (by decide) (by simp)
  have a2 := node_own (k := 14) (n := 0) (ownK1 a1) r2 (by decide) (by decide) (by decide) (by decide) (by simp)
  have a3 := node_own (k := 23) (n := v) (ownK1 a2) r3 (by decide) (by decide) (by omega) (by omega) (by simp)
  exact ⟨a3, ((hF.cons (hi' := g1 + 1) hlo h1 (by omega)).cons (hi' := g2 + 1) (by omega) (by omega) (by omega)).cons (by omega) (by omega) h3⟩

/-- Copy of a term that is not too great. -/
def CopyPost (t : T) (w : World) (e : Ending) (w' : World) : Prop := ∃ y F, e = .returned (.tuple #[y.val, .int .i64 0]) ∧ Own w' t y F ∧ Fresh w.heap.size w'.heap.size F ∧ Below w.heap.size w w'
theorem T.nodes_fits {t : T} (h : t.fits) : t.nodes ≤ 4096 := h.1
set_option maxHeartbeats 1000000 in
theorem copy_calls (t : T) (x : TV) (B : Nat) (w : World) (hr : Rep w B t x) (hB : B ≤ w.heap.size) (hf : t.fits) :
    Calls Tryz.prog 72 #[x.val] w (CopyPost t w) := by
  have hb0 : Below w.heap.size w ((w.alloc (.cells x.cells 29)).alloc (.cells #[.int .i64 0, .string ⟨#[]⟩, .int .i64 0, .slice none 0 0, .slice none 0 0, .slice none 0 0] 29)) := by go_grown
  have hbox0 := (Box.new w x 29).alloc (.cells #[.int .i64 0, .string ⟨#[]⟩, .int .i64 0, .slice none 0 0, .slice none 0 0, .slice none 0 0] 29)
  have hres0 := Box.new (w.alloc (.cells x.cells 29)) zeroTV 29
  have HG := Lib.hid (fun W (h : Below w.heap.size w W) => great_known (v := false) (by simp [hf]) hr hB h)
  have HT := Lib.hid (twin_all t hf.1)
  have HR := Lib.hid hr
  simp only [TV.cells, zeroTV, World.size_alloc] at hb0 hbox0 hres0
  have HB0 := Lib.hid hb0
  have HBOX0 := Lib.hid hbox0
  have HRES0 := Lib.hid hres0
  clear hb0 hbox0 hres0 hr hf
  simp only [TV.val, TV.cells]
  go_enter Tryz.func72, Tryz.ntmps72
  go_wp2_with fail
  refine (HG.out _ HB0.out).mono ?_
  rintro e w1 ⟨rfl, hb1⟩
  have HB1 := Lib.hid (HB0.out.trans (hb1.mono (by simp; omega)))
  have HBOX1 := Lib.hid (HBOX0.out.below hb1 (by simp; omega))
  have HRES1 := Lib.hid (HRES0.out.below hb1 (by simp))
  have hz1 := HRES1.out.lt
  obtain ⟨k0, k1, k2, k3, k4, k5, kf⟩ := HBOX1.out
  clear hb1
  go_wp2_with fail
  have H2 := HT.out x B w1 (HR.out.below HB1.out hB) (Nat.le_trans hB HB1.out.size)
  simp only [TV.val, TV.cells] at H2
  refine H2.mono ?_
  rintro e w2 ⟨y, F, rfl, hO, hF, hb2⟩
  have HB2 := Lib.hid (HB1.out.trans (hb2.mono HB1.out.size))
  have HRES2 := Lib.hid (HRES1.out.below hb2 hz1)
  have HO := Lib.hid hO
  have HF := Lib.hid hF
  obtain ⟨r0, r1, r2, r3, r4, r5, rf⟩ := HRES2.out
  try simp only at r0 r1 r2 r3 r4 r5
  clear hb2 hO hF k0 k1 k2 k3 k4 k5 kf H2
  simp only [TV.val, TV.cells]
  go_wp2_with fail
  refine bodyPost_ret (v := .tuple #[y.val, .int .i64 0]) (by simp [results, Tryz.results72, TV.val, TV.cells, r0, r1, r2, r3, r4, r5, rf, go_sem]) rfl ?_
  refine ⟨y, F, rfl, Own.kept _ _ _ HO.out (fun b hb => ?_), HF.out.mono (by omega) ?_, ?_⟩
  · have := HF.out.lo b hb
    iterate 6 (refine (Below.heap_setCell _ _ _ _ (fun e => by simp only at e; omega)).trans ?_)
    rfl
  · simp [World.setCell]
  · iterate 6 (refine Below.setCell ?_ (by simp) _)
    exact HB2.out

end Go.Proofs.YtnnhbpgpkpbinaaGreat
