/- The laws' own comparisons of arrays and of terms that are the same. A workspace in memory: its block, its three maps, what they hold. Package space: named, isVerb, isNoun, twin, New, room. Package space: twin. Package space: New, room. -/
import Derived.Test.YtboondbognbnnaaGreatDoorQSAc
import Derived.Test.YtboondbognbnnaaGreatDoorQTwinA
import Derived.StillTailTactics
import Derived.Test.YtboondbognbnnaaGreatDoorQSA
import Derived.Maps.OwnSet
import Derived.Sort.KeysCollected
import Derived.Test.YtboondbognbnnaaGreatDoorQTermA
import Derived.Test.YtboondbognbnnaaGreatDoorQPrimB
import Derived.Maps.OwnOps
import Derived.Deep.RegionHeld3
set_option linter.unusedVariables false
set_option linter.unusedSimpArgs false
namespace Go.Proofs.YtboondbognbnnaaGreatDoor
open Go.RowKit
set_option maxRecDepth 100000 in
theorem eqArr_calls {B : Nat} {sh a : List Int} {x y : AV} {w : World} (hx : ARep w B sh a x) (hy : ARep w B sh a y) (hs : x.sl ≤ 17592186044416) (ha : x.al ≤ 17592186044416) (hB : B ≤ w.heap.size) :
    Calls Tryz.prog 15 #[x.val, y.val] w (EqPost14 w) := by
  have e1 : y.sl = x.sl := hy.s.1.symm.trans hx.s.1
  have e2 : y.al = x.al := hy.a.1.symm.trans hx.a.1
  have hb0 := ((Below.refl w.heap.size w).alloc (Nat.le_refl _) (.cells x.cells 26)).alloc (by simp) (.cells y.cells 26)
  have hX := (Boxd.new w x.cells 26).later ((Below.refl _ _).alloc (Nat.le_refl _) (.cells y.cells 26))
  have hY := Boxd.new (w.alloc (.cells x.cells 26)) y.cells 26
  simp only [World.size_alloc] at hY
  generalize hw0 : (w.alloc (.cells x.cells 26)).alloc (.cells y.cells 26) = w0 at hb0 hX hY
  have HW0 := Lib.hid hw0
  have HB0 := Lib.hid hb0
  have hk := Keeps.of_below hb0 hB
  have hx0 := hx.keep hk
  have hy0 := hy.keep hk
  have hB0 : B ≤ w0.heap.size := Nat.le_trans hB hb0.size
  have C1 := Lib.hid (fun W (h : Below w0.heap.size w0 W) => eqInts_calls (c1 := x.sc) (c2 := y.sc) (hx0.s.keep (Keeps.of_below h hB0)) (e1 ▸ hy0.s.keep (Keeps.of_below h hB0)) hs (Nat.le_trans hB0 h.size))
  have C2 := Lib.hid (fun W (h : Below w0.heap.size w0 W) => eqAtoms_calls (c1 := x.ac) (c2 := y.ac) (hx0.a.keep (Keeps.of_below h hB0)) (e2 ▸ hy0.a.keep (Keeps.of_below h hB0)) ha (Nat.le_trans hB0 h.size))
  clear hw0 hb0 hk hx hy hx0 hy0 hs ha hB hB0
  have HX := Lib.hid hX
  have HY := Lib.hid hY
  clear hX hY
  obtain ⟨xsa, xsl, xsc, xaa, xal, xac⟩ := x
  obtain ⟨ysa, ysl, ysc, yaa, yal, yac⟩ := y
  simp only at e1 e2
  subst e1 e2
  unfold AV.cells at HX HY HW0
  simp only at HX HY HW0 C1 C2
  unfold AV.val AV.cells
  go_enter Tryz.func15, Tryz.ntmps15
  go_upto_region 1 with fail
  rw [HW0.out]
  have q0 := HX.out.cell 0 _ rfl
  have q1 := HX.out.cell 1 _ rfl
  have r0 := HY.out.cell 0 _ rfl
  have r1 := HY.out.cell 1 _ rfl
  unfold EqPost14 at C1 C2 ⊢
  go_wp2_with (first
    | (go_at_call 37; refine (C1.out _ (Below.refl _ _)).mono ?_; rintro e w1 ⟨rfl, hb1⟩; have X1 := Lib.hid (HX.out.later hb1); have Y1 := Lib.hid (HY.out.later hb1); have HB1 := Lib.hid hb1; clear hb1 q0 q1 r0 r1; have q1 := X1.out.cell 1 _ rfl; have r1 := Y1.out.cell 1 _ rfl)
    | (go_at_call 38; refine (C2.out _ HB1.out).mono ?_; rintro e w2 ⟨rfl, hb2⟩; have HB2 := Lib.hid hb2; clear hb2))
  go_ret
  exact ⟨rfl, HB0.out.trans ((HB1.out.trans (HB2.out.mono HB1.out.size)).mono HB0.out.size)⟩
def Eq14 (t : T) : Prop := ∀ (x y : TV) (B : Nat) (w : World), Rep w B t x → Rep w B t y → B ≤ w.heap.size → Calls Tryz.prog 11 #[x.val, y.val] w (EqPost14 w)
/-- the loop: both terms lie in their boxes -/
structure EqRel (w : World) (b1 b2 : Nat) (x y : TV) (wr : World) : Prop where
  below : Below w.heap.size w wr
  bx : Box wr b1 x
  by_ : Box wr b2 y
  l1 : b1 < wr.heap.size
  l2 : b2 < wr.heap.size
theorem EqRel.later {w wr w2 : World} {b1 b2 : Nat} {x y : TV} (h : EqRel w b1 b2 x y wr) (hb : Below wr.heap.size wr w2) : EqRel w b1 b2 x y w2 :=
  ⟨h.below.trans (hb.mono h.below.size), h.bx.below hb h.l1, h.by_.below hb h.l2, Nat.lt_of_lt_of_le h.l1 hb.size, Nat.lt_of_lt_of_le h.l2 hb.size⟩
def TV.arr (x : TV) : AV := ⟨x.sa, x.sl, x.sc, x.aa, x.al, x.ac⟩
theorem Rep.arr {w : World} {B : Nat} {t : T} {x : TV} (h : Rep w B t x) : ARep w B t.shape t.atoms x.arr := ⟨h.shape, h.atoms, h.wee.s0, h.wee.a0, h.wee.s2, h.wee.a2⟩
set_option maxRecDepth 100000 in
set_option maxHeartbeats 4000000 in
theorem eq14_all (t : T) : Eq14 t := by
  refine T.ind (P := Eq14) ?_ t
  intro k s n sh a l ih x y B w hx hy hB
  have hwx := hx.wee
  have hk1 := hwx.l1
  have hs1 := hwx.s1
  have ha1 := hwx.a1
  have HX := Lib.hid hx
  have HY := Lib.hid hy
  obtain ⟨hxk, hyk⟩ := And.intro hx.kind hy.kind
  obtain ⟨hxt, hyt⟩ := And.intro hx.text hy.text
  obtain ⟨hxn, hyn⟩ := And.intro hx.n hy.n
  obtain ⟨hxl, hyl⟩ := And.intro hx.kl hy.kl
  have HC := Lib.hid (fun W (h : Below w.heap.size w W) => eqArr_calls (hx.arr.keep (Keeps.of_below h hB)) (hy.arr.keep (Keeps.of_below h hB)) hs1 ha1 (Nat.le_trans hB h.size))
  simp only [T.kind_mk, T.text_mk, T.n_mk, T.kids_mk] at hxk hyk hxt hyt hxn hyn hxl hyl
  clear hx hy hwx hs1 ha1
  obtain ⟨xk, xt, xn, xsa, xsl, xsc, xaa, xal, xac, xka, xkl, xkc⟩ := x
  obtain ⟨yk, yt, yn, ysa, ysl, ysc, yaa, yal, yac, yka, ykl, ykc⟩ := y
  simp only at hxk hyk hxt hyt hxn hyn hxl hyl hk1
  subst hxk hxt hxn
  subst hyk hyt hyn
  obtain rfl : ykl = xkl := hyl.trans hxl.symm
  clear hyl
  have HIH := Lib.hid ih
  have HXL := Lib.hid hxl
  have hx0 := (Box.new w ⟨yk, yt, yn, xsa, xsl, xsc, xaa, xal, xac, xka, ykl, xkc⟩ 29).alloc (.cells (TV.cells ⟨yk, yt, yn, ysa, ysl, ysc, yaa, yal, yac, yka, ykl, ykc⟩) 29)
  have hy0 := Box.new (w.alloc (.cells (TV.cells ⟨yk, yt, yn, xsa, xsl, xsc, xaa, xal, xac, xka, ykl, xkc⟩) 29)) ⟨yk, yt, yn, ysa, ysl, ysc, yaa, yal, yac, yka, ykl, ykc⟩ 29
  have hb0 : Below w.heap.size w ((w.alloc (.cells (TV.cells ⟨yk, yt, yn, xsa, xsl, xsc, xaa, xal, xac, xka, ykl, xkc⟩) 29)).alloc (.cells (TV.cells ⟨yk, yt, yn, ysa, ysl, ysc, yaa, yal, yac, yka, ykl, ykc⟩) 29)) := by go_grown
  simp only [World.size_alloc, TV.cells] at hx0 hy0 hb0
  simp only [TV.val, TV.cells]
  simp only [AV.val, AV.cells, TV.arr] at HC
  clear ih hxl
  unfold EqPost14
  go_enter Tryz.func11, Tryz.ntmps11
  go_upto_region 1 with fail
  generalize (w.alloc (.cells #[.int .i64 yk, .string yt, .int .i64 yn, .slice xsa xsl xsc, .slice xaa xal xac, .slice xka ykl xkc] 29)).alloc (.cells #[.int .i64 yk, .string yt, .int .i64 yn, .slice ysa ysl ysc, .slice yaa yal yac, .slice yka ykl ykc] 29) = w0 at hx0 hy0 hb0 ⊢
  have HR0 : Hid (EqRel w w.heap.size (w.heap.size + 1) ⟨yk, yt, yn, xsa, xsl, xsc, xaa, xal, xac, xka, ykl, xkc⟩ ⟨yk, yt, yn, ysa, ysl, ysc, yaa, yal, yac, yka, ykl, ykc⟩ w0) := Lib.hid ⟨hb0, hx0, hy0, hx0.lt, hy0.lt⟩
  obtain ⟨a0, a1, a2, a3, a4, a5, af⟩ := hx0
  obtain ⟨c0, c1, c2, c3, c4, c5, cf⟩ := hy0
  simp only at a0 a1 a2 a3 a4 a5 c0 c1 c2 c3 c4 c5
  clear hb0
  go_wp2_with (go_at_call 15; refine (HC.out _ HR0.out.below).mono ?_; unfold EqPost14; rintro e w1 ⟨rfl, hb1⟩; have HR1 := Lib.hid (HR0.out.later hb1); clear hb1 a0 a1 a2 a3 a4 a5 af c0 c1 c2 c3 c4 c5 cf; obtain ⟨a0, a1, a2, a3, a4, a5, af⟩ := HR1.out.bx; obtain ⟨c0, c1, c2, c3, c4, c5, cf⟩ := HR1.out.by_; simp only at a0 a1 a2 a3 a4 a5 c0 c1 c2 c3 c4 c5)
  clear a0 a1 a2 a3 a4 a5 af c0 c1 c2 c3 c4 c5 cf HR0
  go_loopw [5] (fun i wr => ∃ K : Nat, K ≤ ykl ∧ i = .int .i64 K ∧ EqRel w w.heap.size (w.heap.size + 1) ⟨yk, yt, yn, xsa, xsl, xsc, xaa, xal, xac, xka, ykl, xkc⟩ ⟨yk, yt, yn, ysa, ysl, ysc, yaa, yal, yac, yka, ykl, ykc⟩ wr) (fun i _ => ykl - (intOf i).toNat)
  case atStart => exact ⟨0, Nat.zero_le _, rfl, HR1.out⟩
  case round =>
    obtain ⟨K, hK, rfl, hrel⟩ := hrel
    have HREL := Lib.hid hrel
    obtain ⟨q0, q1, q2, q3, q4, q5, qf⟩ := hrel.bx
    obtain ⟨r0, r1, r2, r3, r4, r5, rf⟩ := hrel.by_
    simp only at q0 q1 q2 q3 q4 q5 r0 r1 r2 r3 r4 r5
    have hkeep : Keeps B w wr := Keeps.of_below hrel.below hB
    have hsz := hrel.below.size
    clear hrel
    by_cases hlt : K < ykl
    · have hKl : K < l.length := by rw [← HXL.out]; exact hlt
      have hu : l[K]? = some l[K] := List.getElem?_eq_getElem hKl
      obtain ⟨b1, o1, y1, e1, hb1, hat1, hr1⟩ := HX.out.kid (t := T.mk yk yt yn sh a l) (j := K) hu
      obtain ⟨b2, o2, y2, e2, hb2, hat2, hr2⟩ := HY.out.kid (t := T.mk yk yt yn sh a l) (j := K) hu
      have HCK := Lib.hid (HIH.out l[K] (List.getElem_mem hKl) y1 y2 B wr.drew (Rep.keep (w' := wr.drew) (show Keeps B w wr.drew from hkeep) _ _ hr1) (Rep.keep (w' := wr.drew) (show Keeps B w wr.drew from hkeep) _ _ hr2) (Nat.le_trans hB hsz))
      obtain ⟨p0, p1, p2, p3, p4, p5⟩ := hat1.keep hb1 hkeep
      obtain ⟨s0, s1, s2, s3, s4, s5⟩ := hat2.keep hb2 hkeep
      simp only at e1 e2
      rw [e1] at q5
      rw [e2] at r5
      have hk0 : (0 : Int) ≤ (K : Int) := by omega
      have hk1' : (K : Int) < (ykl : Int) := by omega
      simp only [TV.val, TV.cells] at HCK
      unfold EqPost14 at HCK
      clear hkeep hat1 hat2 hr1 hr2 e1 e2 hu hsz
      go_wp2_with fail
      refine still_tail 10 (by kernel_rfl) (by kernel_rfl) ?_
      simp only [List.take_succ_cons, List.take_zero, List.drop_succ_cons, List.drop_zero]
      repeat still_step
      refine wpStill_nil ?_
      go_wp2_with (go_at_call 11; (with_reducible refine HCK.out.mono ?_); rintro e w2 ⟨rfl, ht2⟩)
      have HST := Lib.hid (HREL.out.later (show Below wr.heap.size wr w2 from (Below.refl _ _).drew.trans ht2))
      clear ht2 q0 q1 q2 q3 q4 q5 qf r0 r1 r2 r3 r4 r5 rf p0 p1 p2 p3 p4 p5 s0 s1 s2 s3 s4 s5
      go_wp2_with fail
      go_roundw
      case rel => exact ⟨K + 1, by omega, by go_num, HST.out⟩
      case measure => simp [intOf]; omega
    · clear hkeep hsz
      go_wp2_with fail
      go_ret
      exact ⟨rfl, HREL.out.below⟩
end Go.Proofs.YtboondbognbnnaaGreatDoor

namespace Go.Proofs.YtboondbognbnnaaGreatDoor
open Go.RowKit
def IntsS (w : World) (S : Nat → Prop) (A : Option Addr) (len : Nat) (xs : List Int) : Prop :=
  xs.length = len ∧ (0 < len → ∃ b o, A = some ⟨b, o, none⟩ ∧ S b ∧ ∀ (i : Nat) (v : Int), xs[i]? = some v → w.cell? ⟨b, o + i, none⟩ = some (.int .i64 v))
mutual
/-- Six cells read as a term, all lists in blocks of a set. -/
def RepS (w : World) (S : Nat → Prop) : T → TV → Prop
  | .mk k s n sh a l, x => Wee x ∧ x.kind = k ∧ x.text = s ∧ x.n = n ∧ IntsS w S x.sa x.sl sh ∧ IntsS w S x.aa x.al a ∧ x.kl = l.length ∧ RepSL w S l x.ka 0
def RepSL (w : World) (S : Nat → Prop) : List T → Option Addr → Nat → Prop
  | [], _, _ => True
  | t :: l, A, i => (∃ b o x, A = some ⟨b, o, none⟩ ∧ S b ∧ At w b (o + i * 6) x ∧ RepS w S t x) ∧ RepSL w S l A (i + 1)
end
theorem RepSL_iff (w : World) (S : Nat → Prop) (l : List T) (A : Option Addr) (i : Nat) :
    RepSL w S l A i ↔ ∀ (j : Nat) (t : T), l[j]? = some t → ∃ b o x, A = some ⟨b, o, none⟩ ∧ S b ∧ At w b (o + (i + j) * 6) x ∧ RepS w S t x := by
  induction l generalizing i with
  | nil => simp [RepSL]
  | cons t l ih =>
    simp only [RepSL, ih]
    constructor
    · rintro ⟨h0, h1⟩ j u hu
      cases j with
      | zero => simp at hu; subst hu; exact h0
      | succ j =>
        have := h1 j u (by simpa using hu)
        rwa [show i + 1 + j = i + (j + 1) from by omega] at this
    · intro h
      refine ⟨h 0 t (by simp), fun j u hu => ?_⟩
      have := h (j + 1) u (by simpa using hu)
      rwa [show i + (j + 1) = i + 1 + j from by omega] at this
theorem RepS_iff (w : World) (S : Nat → Prop) (t : T) (x : TV) : RepS w S t x ↔
    Wee x ∧ x.kind = t.kind ∧ x.text = t.text ∧ x.n = t.n ∧ IntsS w S x.sa x.sl t.shape ∧ IntsS w S x.aa x.al t.atoms ∧ x.kl = t.kids.length ∧
      ∀ (j : Nat) (u : T), t.kids[j]? = some u → ∃ b o y, x.ka = some ⟨b, o, none⟩ ∧ S b ∧ At w b (o + j * 6) y ∧ RepS w S u y := by
  cases t with
  | mk k s n sh a l =>
    simp only [RepS, RepSL_iff, T.kind_mk, T.text_mk, T.n_mk, T.shape_mk, T.atoms_mk, T.kids_mk, Nat.zero_add]
theorem IntsS.keep {w w' : World} {S S' : Nat → Prop} {A : Option Addr} {len : Nat} {xs : List Int} (h : IntsS w S A len xs) (hk : ∀ b o, S b → w'.cell? ⟨b, o, none⟩ = w.cell? ⟨b, o, none⟩) (hs : ∀ b, S b → S' b) : IntsS w' S' A len xs :=
  ⟨h.1, fun hl => by
    obtain ⟨b, o, e, hb, hc⟩ := h.2 hl
    exact ⟨b, o, e, hs b hb, fun i v hv => (hk b _ hb).trans (hc i v hv)⟩⟩
theorem At.same {w w' : World} {b o : Nat} {x : TV} (h : At w b o x) (hk : ∀ o, w'.cell? ⟨b, o, none⟩ = w.cell? ⟨b, o, none⟩) : At w' b o x :=
  ⟨(hk _).trans h.c0, (hk _).trans h.c1, (hk _).trans h.c2, (hk _).trans h.c3, (hk _).trans h.c4, (hk _).trans h.c5⟩
theorem RepS.keep {w w' : World} {S S' : Nat → Prop} (hk : ∀ b o, S b → w'.cell? ⟨b, o, none⟩ = w.cell? ⟨b, o, none⟩) (hs : ∀ b, S b → S' b) (t : T) : ∀ x, RepS w S t x → RepS w' S' t x := by
  refine T.ind (P := fun t => ∀ x, RepS w S t x → RepS w' S' t x) ?_ t
  intro k s n sh a l ih x h
  rw [RepS_iff] at h ⊢
  obtain ⟨h0, h1, h2, h3, h4, h5, h6, h7⟩ := h
  refine ⟨h0, h1, h2, h3, h4.keep hk hs, h5.keep hk hs, h6, fun j u hu => ?_⟩
  obtain ⟨b, o, y, e, hb, hat, hr⟩ := h7 j u hu
  exact ⟨b, o, y, e, hs b hb, hat.same (fun o => hk b o hb), ih u (List.mem_of_getElem? hu) y hr⟩
theorem Rep.toS {w : World} {B : Nat} (t : T) : ∀ x, Rep w B t x → RepS w (· < B) t x := by
  refine T.ind (P := fun t => ∀ x, Rep w B t x → RepS w (· < B) t x) ?_ t
  intro k s n sh a l ih x h
  rw [Rep_iff] at h
  rw [RepS_iff]
  obtain ⟨h0, h1, h2, h3, h4, h5, h6, h7⟩ := h
  refine ⟨h0, h1, h2, h3, h4, h5, h6, fun j u hu => ?_⟩
  obtain ⟨b, o, y, e, hb, hat, hr⟩ := h7 j u hu
  exact ⟨b, o, y, e, hb, hat, ih u (List.mem_of_getElem? hu) y hr⟩
theorem RepS.rep {w : World} {B : Nat} {S : Nat → Prop} (hs : ∀ b, S b → b < B) (t : T) : ∀ x, RepS w S t x → Rep w B t x := by
  refine T.ind (P := fun t => ∀ x, RepS w S t x → Rep w B t x) ?_ t
  intro k s n sh a l ih x h
  rw [RepS_iff] at h
  rw [Rep_iff]
  obtain ⟨h0, h1, h2, h3, h4, h5, h6, h7⟩ := h
  refine ⟨h0, h1, h2, h3, h4.keep (fun _ _ _ => rfl) hs, h5.keep (fun _ _ _ => rfl) hs, h6, fun j u hu => ?_⟩
  obtain ⟨b, o, y, e, hb, hat, hr⟩ := h7 j u hu
  exact ⟨b, o, y, e, hs b hb, hat, ih u (List.mem_of_getElem? hu) y hr⟩
theorem RepS.wee {w : World} {S : Nat → Prop} {t : T} {x : TV} (h : RepS w S t x) : Wee x := ((RepS_iff w S t x).1 h).1
theorem RepS.kind {w : World} {S : Nat → Prop} {t : T} {x : TV} (h : RepS w S t x) : x.kind = t.kind := ((RepS_iff w S t x).1 h).2.1
theorem RepS.text {w : World} {S : Nat → Prop} {t : T} {x : TV} (h : RepS w S t x) : x.text = t.text := ((RepS_iff w S t x).1 h).2.2.1
theorem RepS.kl {w : World} {S : Nat → Prop} {t : T} {x : TV} (h : RepS w S t x) : x.kl = t.kids.length := ((RepS_iff w S t x).1 h).2.2.2.2.2.2.1
theorem RepS.kid {w : World} {S : Nat → Prop} {t : T} {x : TV} (h : RepS w S t x) {j : Nat} {u : T} (hj : t.kids[j]? = some u) : ∃ b o y, x.ka = some ⟨b, o, none⟩ ∧ S b ∧ At w b (o + j * 6) y ∧ RepS w S u y :=
  ((RepS_iff w S t x).1 h).2.2.2.2.2.2.2 j u hj
/-- a later world: nothing below has turned -/
theorem RepS.below {w w' : World} {S : Nat → Prop} {t : T} {x : TV} {B : Nat} (h : RepS w S t x) (hb : Below B w w') (hS : ∀ b, S b → b < B) : RepS w' S t x :=
  RepS.keep (fun b o hb' => hb.cell (p := ⟨b, o, none⟩) (hS b hb')) (fun _ h => h) t x h
theorem RepS.mono {w : World} {S S' : Nat → Prop} {t : T} {x : TV} (h : RepS w S t x) (hs : ∀ b, S b → S' b) : RepS w S' t x := RepS.keep (fun _ _ _ => rfl) hs t x h

theorem OwnI.intsS {w : World} {ty : Nat} {A : Option Addr} {len cap : Nat} {xs : List Int} {F : List Nat} {S : Nat → Prop} (h : OwnI w ty A len cap xs F) (hF : ∀ b ∈ F, S b) : IntsS w S A len xs := by
  obtain ⟨h1, h2, h3⟩ := h
  refine ⟨h1, fun hl => ?_⟩
  obtain ⟨b, e, hb⟩ := h2.block hl
  exact ⟨b, 0, e, hF b (by simp [hb]), fun i v hv => by rw [Nat.zero_add]; exact h3 b e i v hv⟩
theorem OwnL_repS {w : World} {S : Nat → Prop} (l : List T) (ih : ∀ t ∈ l, ∀ x F, Own w t x F → (∀ b ∈ F, S b) → RepS w S t x) (A : Option Addr) (hA : ∀ b, A = some ⟨b, 0, none⟩ → l ≠ [] → S b) :
    ∀ (i : Nat) (F : List Nat), OwnL w l A i F → (∀ b ∈ F, S b) → RepSL w S l A i := by
  induction l with
  | nil => exact fun _ _ _ _ => trivial
  | cons t l ihl =>
    intro i F h hk
    obtain ⟨F1, F2, rfl, ⟨b, x, hb, hat, ho⟩, hr⟩ := h
    refine ⟨⟨b, 0, x, hb, hA b hb (by simp), by rw [Nat.zero_add]; exact hat, ih t (by simp) x F1 ho (fun c hc => hk c (by simp [hc]))⟩, ?_⟩
    exact ihl (fun u hu => ih u (by simp [hu])) (fun c hc _ => hA c hc (by simp)) (i + 1) F2 hr (fun c hc => hk c (by simp [hc]))
/-- a term of its own reads as the term -/
theorem Own.repS {w : World} {S : Nat → Prop} (t : T) : ∀ (x : TV) (F : List Nat), Own w t x F → (∀ b ∈ F, S b) → RepS w S t x := by
  refine T.ind (P := fun t => ∀ (x : TV) (F : List Nat), Own w t x F → (∀ b ∈ F, S b) → RepS w S t x) ?_ t
  intro k s n sh a l ih x F h hk
  simp only [Own] at h
  obtain ⟨h1, h2, h3, h4, h5, F1, F2, F3, F4, rfl, h6, h7, h8, h9⟩ := h
  refine ⟨h1, h2, h3, h4, h6.intsS (fun b hb => hk b (by simp [hb])), h7.intsS (fun b hb => hk b (by simp [hb])), h5, ?_⟩
  refine OwnL_repS l ih x.ka (fun b hb hl => ?_) 0 F4 h9 (fun b hb => hk b (by simp [hb]))
  have hpos : 0 < x.kl := by rw [h5]; exact List.length_pos_iff.2 hl
  obtain ⟨b', e, hF⟩ := h8.block hpos
  rw [hb] at e
  cases e
  exact hk b (by simp [hF])
/-- an array whose lists lie in blocks of a set -/
structure ARepS (w : World) (S : Nat → Prop) (sh a : List Int) (x : AV) : Prop where
  s : IntsS w S x.sa x.sl sh
  a : IntsS w S x.aa x.al a
  s1 : x.sl ≤ x.sc
  a1 : x.al ≤ x.ac
  s2 : x.sc ≤ maxLen
  a2 : x.ac ≤ maxLen
  s3 : x.sl ≤ 17592186044416
  a3 : x.al ≤ 17592186044416
theorem ARepS.keep {w w' : World} {S S' : Nat → Prop} {sh a : List Int} {x : AV} (h : ARepS w S sh a x) (hk : ∀ b o, S b → w'.cell? ⟨b, o, none⟩ = w.cell? ⟨b, o, none⟩) (hs : ∀ b, S b → S' b) : ARepS w' S' sh a x :=
  ⟨h.s.keep hk hs, h.a.keep hk hs, h.s1, h.a1, h.s2, h.a2, h.s3, h.a3⟩
theorem IntsS.ints {w : World} {S : Nat → Prop} {A : Option Addr} {len B : Nat} {xs : List Int} (h : IntsS w S A len xs) (hs : ∀ b, S b → b < B) : Ints w B A len xs :=
  ⟨h.1, fun hl => by
    obtain ⟨b, o, e, hb, hc⟩ := h.2 hl
    exact ⟨b, o, e, hs b hb, hc⟩⟩
theorem ARepS.rep {w : World} {S : Nat → Prop} {sh a : List Int} {x : AV} {B : Nat} (h : ARepS w S sh a x) (hs : ∀ b, S b → b < B) : ARep w B sh a x := ⟨h.s.ints hs, h.a.ints hs, h.s1, h.a1, h.s2, h.a2⟩
/-- a workspace's four blocks -/
structure SB where
  s : Nat
  mv : Nat
  mn : Nat
  ms : Nat
def SB.has (p : SB) (b : Nat) : Prop := b = p.s ∨ b = p.mv ∨ b = p.mn ∨ b = p.ms
/-- all other blocks -/
def SB.safe (p : SB) (w : World) : Nat → Prop := fun b => b < w.heap.size ∧ ¬ p.has b
/-- nothing but a workspace's blocks has turned -/
structure Turn (p : SB) (w w' : World) : Prop where
  os : w'.os = w.os
  tape : w'.tape = w.tape
  output : w'.output = w.output
  size : w.heap.size ≤ w'.heap.size
  block : ∀ k, k < w.heap.size → ¬ p.has k → w'.heap[k]? = w.heap[k]?
theorem Turn.refl (p : SB) (w : World) : Turn p w w := ⟨rfl, rfl, rfl, Nat.le_refl _, fun _ _ _ => rfl⟩
theorem Turn.trans {p : SB} {a b c : World} (h : Turn p a b) (k : Turn p b c) : Turn p a c :=
  ⟨k.os.trans h.os, k.tape.trans h.tape, k.output.trans h.output, Nat.le_trans h.size k.size, fun i hi hp => (k.block i (Nat.lt_of_lt_of_le hi h.size) hp).trans (h.block i hi hp)⟩
theorem Turn.of_below {p : SB} {w w' : World} (h : Below w.heap.size w w') : Turn p w w' := ⟨h.os, h.tape, h.output, h.size, fun k hk _ => h.block k hk⟩
theorem Turn.of_grown {p : SB} {w w' : World} {r : Option Nat} (h : w.grownBy w' r) (hr : ∀ g, r = some g → p.has g) : Turn p w w' :=
  ⟨h.os, h.tape, h.output, h.size, fun k hk hp => h.block k hk (fun e => hp (hr k e.symm))⟩
theorem Turn.set {p : SB} (w : World) (o : Nat) (v : Value) : Turn p w (w.setCell ⟨p.s, o, none⟩ v) :=
  ⟨rfl, rfl, rfl, by simp [World.setCell], fun k _ hp => Below.heap_setCell _ _ _ _ (fun e => hp (.inl e))⟩
theorem Turn.below {p : SB} {w w' : World} {B : Nat} (h : Turn p w w') (hB : B ≤ w.heap.size) (hp : ∀ b, p.has b → B ≤ b) : Below B w w' :=
  ⟨h.os, h.tape, h.output, h.size, fun k hk => h.block k (by omega) (fun e => by have := hp k e; omega)⟩
theorem Turn.cell {p : SB} {w w' : World} (h : Turn p w w') : ∀ b o, p.safe w b → w'.cell? ⟨b, o, none⟩ = w.cell? ⟨b, o, none⟩ := fun b _ hb => cell_of_heap (h.block b hb.1 hb.2)
theorem Turn.safe {p : SB} {w w' : World} (h : Turn p w w') : ∀ b, p.safe w b → p.safe w' b := fun _ hb => ⟨Nat.lt_of_lt_of_le hb.1 h.size, hb.2⟩
theorem SB.safe_lt {p : SB} {w : World} : ∀ b, p.safe w b → b < w.heap.size := fun _ h => h.1
/-- what a name means -/
inductive Mng where
  | verb (t : T)
  | noun (sh a : List Int)
abbrev RV : Value → Option (DataW Value × List MemPlace) := fun v => some (.held v, [])
abbrev Names := List UInt8 → Option Mng
/-- a map that holds values as they are -/
abbrev HoldsM (w : World) (b n : Nat) (D : DataW Value) : Prop := w.ownsMap Tryz.prog 9 RV b n D
/-- what lies under a name -/
def EntAt (w : World) (S : Nat → Prop) (DV DN : DataW Value) (k : List UInt8) : Mng → Prop
  | .verb t => T.named k 65 90 = true ∧ Maps.has DV (.string k) = true ∧ t.fits ∧ T.may t 3 = 0 ∧ ∃ x, (∀ z, DV.atKey (.string k) z = .held (TV.val x)) ∧ RepS w S t x
  | .noun sh a => T.named k 97 122 = true ∧ Maps.has DN (.string k) = true ∧ ∃ x, (∀ z, DN.atKey (.string k) z = .held (AV.val x)) ∧ ARepS w S sh a x
/-- a workspace -/
structure Sp (p : SB) (w : World) (all : Int) (DV DN DS : DataW Value) (n : Nat) (σ : Names) : Prop where
  box : Boxd w p.s #[.map (some p.mv), .map (some p.mn), .map (some p.ms), .int .i64 all]
  v : HoldsM w p.mv n DV
  nn : HoldsM w p.mn n DN
  s : HoldsM w p.ms n DS
  le : n ≤ 100000
  vn : p.mv ≠ p.mn
  vs : p.mv ≠ p.ms
  ns : p.mn ≠ p.ms
  at_ : ∀ k e, σ k = some e → Maps.has DS (.string k) = true ∧ EntAt w (p.safe w) DV DN k e
  ints : ∀ k, Maps.has DS (.string k) = true → ∃ i, ∀ z, DS.atKey (.string k) z = .held (.int .i64 i)
  hs : ∀ k, Maps.has DS (.string k) = true → (σ k).isSome = true
  hv : ∀ k, Maps.has DV (.string k) = true → ∃ t, σ k = some (.verb t)
  hn : ∀ k, Maps.has DN (.string k) = true → ∃ sh a, σ k = some (.noun sh a)
theorem EntAt.keep {p : SB} {w w' : World} {DV DN : DataW Value} {k : List UInt8} {e : Mng} (h : EntAt w (p.safe w) DV DN k e) (ht : Turn p w w') : EntAt w' (p.safe w') DV DN k e := by
  cases e with
  | verb t =>
    obtain ⟨h1, h2, h3, h4, x, h5, h6⟩ := h
    exact ⟨h1, h2, h3, h4, x, h5, RepS.keep ht.cell ht.safe t x h6⟩
  | noun sh a =>
    obtain ⟨h1, h2, x, h5, h6⟩ := h
    exact ⟨h1, h2, x, h5, h6.keep ht.cell ht.safe⟩
theorem HoldsM.at {w w' : World} {b n : Nat} {D : DataW Value} (h : HoldsM w b n D) (hk : w'.heap[b]? = w.heap[b]?) : HoldsM w' b n D := by
  obtain ⟨es, clock, hb, F, hs, hD⟩ := h
  exact ⟨es, clock, hk.trans hb, F, hs, hD⟩
/-- a call has gone by that turned nothing that was there -/
theorem Sp.later {p : SB} {w w' : World} {all : Int} {DV DN DS : DataW Value} {n : Nat} {σ : Names} (h : Sp p w all DV DN DS n σ) (hb : Below w.heap.size w w') : Sp p w' all DV DN DS n σ :=
  ⟨h.box.later hb, h.v.at (hb.block _ h.v.lt), h.nn.at (hb.block _ h.nn.lt), h.s.at (hb.block _ h.s.lt), h.le, h.vn, h.vs, h.ns, fun k e hk => ⟨(h.at_ k e hk).1, (h.at_ k e hk).2.keep (Turn.of_below hb)⟩, h.ints, h.hs, h.hv, h.hn⟩
theorem Sp.sv {p : SB} {w : World} {all : Int} {DV DN DS : DataW Value} {n : Nat} {σ : Names} (h : Sp p w all DV DN DS n σ) : p.s ≠ p.mv ∧ p.s ≠ p.mn ∧ p.s ≠ p.ms := by
  have hc := h.box.cell 0 _ rfl
  have key : ∀ {b : Nat} {D : DataW Value}, HoldsM w b n D → p.s ≠ b := by
    rintro b D ⟨es, clock, hb, _⟩ e
    rw [e] at hc
    simp [World.cell?, hb] at hc
  exact ⟨key h.v, key h.nn, key h.s⟩
end Go.Proofs.YtboondbognbnnaaGreatDoor

namespace Go.Proofs.YtboondbognbnnaaGreatDoor
open Go.RowKit
theorem sn_no (s : ByteArray) (lo hi : Int) (w : World) (hs : s.size ≤ 140737488355328) (hb : s.size < 1 ∨ 32 < s.size) :
    Calls Tryz.prog 52 #[.string s, .int .u8 lo, .int .u8 hi] w fun e w' => e = .returned (.bool false) ∧ w = w' := by
  by_cases h1 : s.size < 1
  · go_enter Tryz.func52, Tryz.ntmps52
    go_wp2_with fail
    all_goals go_ret
    all_goals exact ⟨rfl, rfl⟩
  · have h2 : 32 < s.size := by omega
    go_enter Tryz.func52, Tryz.ntmps52
    go_wp2_with fail
    all_goals go_ret
    all_goals exact ⟨rfl, rfl⟩

set_option maxHeartbeats 2000000 in
theorem sn_yes (s : ByteArray) (lo hi : Int) (w : World) (h1 : 0 < s.size) (h2 : s.size ≤ 32) :
    Calls Tryz.prog 52 #[.string s, .int .u8 lo, .int .u8 hi] w fun e w' => e = .returned (.bool (T.named s.data.toList lo hi)) ∧ w = w' := by
  have hn := Lib.hid (named_split s lo hi h1 h2)
  by_cases hlo : lo ≤ (s[0].toNat : Int)
  case neg =>
    go_enter Tryz.func52, Tryz.ntmps52
    go_wp2_with fail
    all_goals first | (exfalso; omega) | skip
    all_goals go_ret
    all_goals exact ⟨ret_bool (by rw [hn.out]; simp; omega), rfl⟩
  by_cases hhi : (s[0].toNat : Int) ≤ hi
  case neg =>
    go_enter Tryz.func52, Tryz.ntmps52
    go_wp2_with fail
    all_goals first | (exfalso; omega) | skip
    all_goals go_ret
    all_goals exact ⟨ret_bool (by rw [hn.out]; simp; omega), rfl⟩
  have hn' : T.named s.data.toList lo hi = okTo s.data.toList s.size := by rw [hn.out]; simp [hlo, hhi]
  have HN := Lib.hid hn'
  clear hn hn'
  go_enter Tryz.func52, Tryz.ntmps52
  go_wp2_with fail
  all_goals first | (exfalso; omega) | skip
  go_loop [7] (fun i => ∃ k : Nat, 1 ≤ k ∧ k ≤ s.size ∧ i = .int .i64 k ∧ Hid (okTo s.data.toList k = true)) (fun i => s.size - (intOf i).toNat)
  case atStart => exact ⟨1, by omega, by omega, rfl, okTo_one _⟩
  case round =>
    obtain ⟨k, hk1, hk, rfl, hok⟩ := hrel
    by_cases hlt : k < s.size
    · have HS := Lib.hid (okTo_succ s k hlt hk1)
      have HF := Lib.hid (okTo_false s k hlt hk1)
      go_wp2_with fail
      all_goals first
        | (go_ret
           exact ⟨ret_bool (by rw [HN.out, HF.out (inner_false (by omega))]), rfl⟩)
        | (go_round
           case rel => exact ⟨k + 1, by omega, by omega, by go_num, show okTo s.data.toList (k + 1) = true by rw [HS.out, hok.out, inner_true (by omega)]; rfl⟩
           case measure => simp [intOf]; omega)
    · go_wp2_with fail
      go_ret
      obtain rfl : k = s.size := by omega
      exact ⟨ret_bool (by rw [HN.out, hok.out]), rfl⟩
theorem sn_calls (s : ByteArray) (lo hi : Int) (w : World) (hs : s.size ≤ 140737488355328) :
    Calls Tryz.prog 52 #[.string s, .int .u8 lo, .int .u8 hi] w fun e w' => e = .returned (.bool (T.named s.data.toList lo hi)) ∧ w = w' := by
  by_cases hb : s.size < 1 ∨ 32 < s.size
  · refine (sn_no s lo hi w hs hb).mono ?_
    rintro e w' ⟨rfl, rfl⟩
    refine ⟨?_, rfl⟩
    have hl : s.data.toList.length = s.size := Array.length_toList
    have : T.named s.data.toList lo hi = false := by
      generalize s.data.toList = L at hl
      cases L with
      | nil => rfl
      | cons c l =>
        have h32 : ¬ (c :: l).length ≤ 32 := by
          simp only [List.length_cons] at hl ⊢
          omega
        simp only [T.named, h32, decide_false, Bool.false_and]
    rw [this]
  · exact sn_yes s lo hi w (by omega) (by omega)
theorem isVerb_calls (s : ByteArray) (w : World) (hs : s.size ≤ 140737488355328) : Calls Tryz.prog 27 #[.string s] w fun e w' => e = .returned (.bool (T.named s.data.toList 65 90)) ∧ w' = w := by
  have H := Lib.hid (sn_calls s 65 90 w hs)
  go_enter Tryz.func27, Tryz.ntmps27
  go_wp2_with (go_at_call 52; refine H.out.mono ?_; rintro e w' ⟨rfl, rfl⟩)
  go_ret
  exact ⟨rfl, rfl⟩
theorem isNoun_calls (s : ByteArray) (w : World) (hs : s.size ≤ 140737488355328) : Calls Tryz.prog 34 #[.string s] w fun e w' => e = .returned (.bool (T.named s.data.toList 97 122)) ∧ w' = w := by
  have H := Lib.hid (sn_calls s 97 122 w hs)
  go_enter Tryz.func34, Tryz.ntmps34
  go_wp2_with (go_at_call 52; refine H.out.mono ?_; rintro e w' ⟨rfl, rfl⟩)
  go_ret
  exact ⟨rfl, rfl⟩
end Go.Proofs.YtboondbognbnnaaGreatDoor

namespace Go.Proofs.YtboondbognbnnaaGreatDoor
open Go.RowKit
theorem Boxd.two {w : World} {b : Nat} {x y : Value} (h : Boxd w b #[x, y]) : w.cell? ⟨b, 0, none⟩ = some x ∧ w.cell? ⟨b, 1, none⟩ = some y := ⟨h.cell 0 x rfl, h.cell 1 y rfl⟩
theorem Boxd.four {w : World} {b : Nat} {x y z u : Value} (h : Boxd w b #[x, y, z, u]) : w.cell? ⟨b, 0, none⟩ = some x ∧ w.cell? ⟨b, 1, none⟩ = some y ∧ w.cell? ⟨b, 2, none⟩ = some z ∧ w.cell? ⟨b, 3, none⟩ = some u := ⟨h.cell 0 x rfl, h.cell 1 y rfl, h.cell 2 z rfl, h.cell 3 u rfl⟩
/-- an array in new memory is answered -/
def ArrPost (sh a : List Int) (w : World) (e : Ending) (w' : World) : Prop :=
  ∃ y : AV, e = .returned y.val ∧ ARepS w' (fun b => w.heap.size ≤ b ∧ b < w'.heap.size) sh a y ∧ Below w.heap.size w w'
theorem OwnI.intsF {w : World} {ty : Nat} {A : Option Addr} {len cap lo hi : Nat} {xs : List Int} {F : List Nat} (h : OwnI w ty A len cap xs F) (hF : Fresh lo hi F) : IntsS w (fun b => lo ≤ b ∧ b < hi) A len xs :=
  h.intsS fun b hb => ⟨hF.lo b hb, hF.hi b hb⟩
theorem IntsS.later {w w' : World} {A : Option Addr} {lo hi lo' hi' len : Nat} {xs : List Int} (h : IntsS w (fun b => lo ≤ b ∧ b < hi) A len xs) (hk : ∀ b, lo ≤ b → b < hi → w'.heap[b]? = w.heap[b]?) (h1 : lo' ≤ lo) (h2 : hi ≤ hi') : IntsS w' (fun b => lo' ≤ b ∧ b < hi') A len xs :=
  h.keep (fun b _ hb => cell_of_heap (hk b hb.1 hb.2)) (fun _ hb => ⟨Nat.le_trans h1 hb.1, Nat.lt_of_lt_of_le hb.2 h2⟩)
set_option maxRecDepth 100000 in
set_option maxHeartbeats 2000000 in
theorem twin_calls {B : Nat} {sh a : List Int} {x : AV} {w : World} (hx : ARep w B sh a x) (hs : x.sl ≤ 17592186044416) (ha : x.al ≤ 17592186044416) (hB : B ≤ w.heap.size) :
    Calls Tryz.prog 36 #[x.val] w (ArrPost sh a w) := by
  have hb0 := ((Below.refl w.heap.size w).alloc (Nat.le_refl _) (.cells x.cells 26)).alloc (by simp) (.cells #[.slice none 0 0, .slice none 0 0] 26)
  have hX := (Boxd.new w x.cells 26).later ((Below.refl _ _).alloc (Nat.le_refl _) (.cells #[.slice none 0 0, .slice none 0 0] 26))
  have hR := Boxd.new (w.alloc (.cells x.cells 26)) #[.slice none 0 0, .slice none 0 0] 26
  simp only [World.size_alloc] at hR
  generalize hw0 : (w.alloc (.cells x.cells 26)).alloc (.cells #[.slice none 0 0, .slice none 0 0] 26) = w0 at hb0 hX hR
  have HW0 := Lib.hid hw0
  have HB0 := Lib.hid hb0
  have hx0 := hx.keep (Keeps.of_below hb0 hB)
  have hB0 : B ≤ w0.heap.size := Nat.le_trans hB hb0.size
  have C1 := Lib.hid (fun W (h : Below w0.heap.size w0 W) => clone_int x.sa x.sl x.sc B sh W (hx0.s.keep (Keeps.of_below h hB0)) (Nat.le_trans hB0 h.size) hs)
  have C2 := Lib.hid (fun W (h : Below w0.heap.size w0 W) => clone_int64 x.aa x.al x.ac B a W (hx0.a.keep (Keeps.of_below h hB0)) (Nat.le_trans hB0 h.size) ha)
  have hz0 : w0.heap.size = w.heap.size + 2 := by rw [← hw0]; simp
  have HZ := Lib.hid hz0
  have HL := Lib.hid (And.intro hs ha)
  clear hw0 hb0 hx hx0 hs ha hB hB0 hz0
  have HX := Lib.hid hX
  have HR := Lib.hid hR
  clear hX hR
  obtain ⟨xsa, xsl, xsc, xaa, xal, xac⟩ := x
  unfold AV.cells at HX HW0
  simp only at HX HW0 C1 C2 HL
  unfold AV.val AV.cells
  unfold ArrPost
  go_enter Tryz.func36, Tryz.ntmps36
  go_upto_region 1 with fail
  rw [HW0.out]
  obtain ⟨q0, q1⟩ := HX.out.two
  have S0 := Lib.hid (And.intro q0 q1)
  have hlt0 := HX.out.lt
  have hlt1 := HR.out.lt
  obtain ⟨r0, r1⟩ := HR.out.two
  have rf := HR.out.fz 0
  have rf1 := HR.out.fz 1
  go_region_held3 (fun w' => w'.cell? ⟨w.heap.size, 0, none⟩ = some (.slice xsa xsl xsc) ∧ w'.cell? ⟨w.heap.size, 1, none⟩ = some (.slice xaa xal xac))
    (first | (with_reducible exact S2.out) | (with_reducible exact S1.out) | (with_reducible exact S0.out) | go_keep | ((try dsimp only); (repeat' apply And.intro); (all_goals go_keep)))
    (first
      | (go_at_call 61; refine (C1.out _ (by first | exact Below.refl _ _ | exact (Below.refl _ _).drew)).mono ?_; rintro e w1 ⟨A1, c1, F1, rfl, hO1, hF1, hb1, hc1, hl1⟩; have hb1' : Below w0.heap.size w0 w1 := (by first | exact hb1 | exact (Below.refl _ _).drew.trans hb1); have X1 := Lib.hid (HX.out.later hb1'); have R1 := Lib.hid (HR.out.later hb1'); have S1 := Lib.hid X1.out.two; have HB1 := Lib.hid hb1'; have HO1 := Lib.hid hO1; have HF1 := Lib.hid (show Fresh w0.heap.size w1.heap.size F1 from hF1); have HC1 := Lib.hid (And.intro hc1 hl1); clear hb1 hb1' hO1 hF1 hc1 hl1 q0 q1 r0 r1 rf rf1 hlt0 hlt1; obtain ⟨q0, q1⟩ := S1.out; obtain ⟨r0, r1⟩ := R1.out.two; have rf := R1.out.fz 0; have rf1 := R1.out.fz 1; have hlt0 := X1.out.lt; have hlt1 := R1.out.lt)
      | (go_at_call 62; refine (C2.out _ HB1.out).mono ?_; rintro e w2 ⟨A2, c2, F2, rfl, hO2, hF2, hb2, hc2, hl2⟩; have X2 := Lib.hid (X1.out.later hb2); have R2 := Lib.hid (R1.out.later hb2); have S2 := Lib.hid X2.out.two; have HB2 := Lib.hid hb2; have HO2 := Lib.hid hO2; have HF2 := Lib.hid hF2; have HC2 := Lib.hid (And.intro hc2 hl2); clear hb2 hO2 hF2 hc2 hl2 q0 q1 r0 r1 rf rf1 hlt0 hlt1; obtain ⟨q0, q1⟩ := S2.out; obtain ⟨r0, r1⟩ := R2.out.two; have rf := R2.out.fz 0; have rf1 := R2.out.fz 1; have hlt0 := X2.out.lt; have hlt1 := R2.out.lt))
  all_goals
    go_wp2_with fail
    refine bodyPost_ret (v := .agg #[.slice A1 xsl c1, .slice A2 xal c2]) (by simp [results, Tryz.results36, q0, q1, r0, r1, rf, rf1, go_sem]) rfl ?_
    have hk : ∀ b, b ≠ w.heap.size + 1 → ((w2.setCell ⟨w.heap.size + 1, 0, none⟩ (.slice A1 xsl c1)).setCell ⟨w.heap.size + 1, 1, none⟩ (.slice A2 xal c2)).heap[b]? = w2.heap[b]? := fun b hb => (Below.heap_setCell _ _ _ _ hb).trans (Below.heap_setCell _ _ _ _ hb)
    have hz := HZ.out
    have hzz := HB1.out.size
    have hzz2 := HB2.out.size
    refine ⟨⟨A1, xsl, c1, A2, xal, c2⟩, rfl, ⟨?_, ?_, HC1.out.2, HC2.out.2, HC1.out.1, HC2.out.1, HL.out.1, HL.out.2⟩, ?_⟩
    · refine (HO1.out.intsF HF1.out).later (fun b hb1 hb2 => (hk b (by omega)).trans (HB2.out.block b hb2)) (by omega) (by simp [World.setCell]; omega)
    · refine (HO2.out.intsF HF2.out).later (fun b hb1 hb2 => hk b (by omega)) (by omega) (by simp [World.setCell])
    · exact ((HB0.out.trans ((HB1.out.trans (HB2.out.mono hzz)).mono HB0.out.size)).setCell (p := ⟨w.heap.size + 1, 0, none⟩) (by simp) _).setCell (p := ⟨w.heap.size + 1, 1, none⟩) (by simp) _
end Go.Proofs.YtboondbognbnnaaGreatDoor

namespace Go.Proofs.YtboondbognbnnaaGreatDoor
open Go.RowKit Go.WideMaps
theorem bytes_le {s : ByteArray} (h : s.size ≤ 140737488355328) : s.size ≤ maxLen := by unfold maxLen; omega
theorem key_mk {s : ByteArray} (h : s.size ≤ 140737488355328) : keyOf Tryz.prog 9 (.string s) = some (.string s.data.toList) := keyOf_string_mk Tryz.underlying9 (bytes_le h)
theorem val_of {v u : Value} {d : DataW Value} {ps : List MemPlace} (h : RV v = some (d, ps)) (hd : d = .held u) : v = u := by
  subst hd
  injection h with h
  injection h with h _
  injection h
def NewPost (w : World) (e : Ending) (w' : World) : Prop :=
  ∃ p : SB, e = .returned (.pointer (some ⟨p.s, 0, none⟩)) ∧ Sp p w' 0 (.map []) (.map []) (.map []) 0 (fun _ => none) ∧ (∀ b, p.has b → w.heap.size ≤ b) ∧ Below w.heap.size w w'
theorem has_nil (k : List UInt8) : Maps.has (.map [] : DataW Value) (.string k) = false := rfl
/-- the world with an empty workspace -/
theorem sp_new (w : World) : Sp ⟨w.heap.size + 3, w.heap.size, w.heap.size + 1, w.heap.size + 2⟩ ((((w.alloc (.map #[] 0)).alloc (.map #[] 0)).alloc (.map #[] 0)).alloc (.cells #[.map (some w.heap.size), .map (some (w.heap.size + 1)), .map (some (w.heap.size + 2)), .int .i64 0] 68)) 0 (.map []) (.map []) (.map []) 0 (fun _ => none) := by
  have m1 := World.ownsMap_made (H := Value) w Tryz.prog 9 RV
  have m2 := World.ownsMap_made (H := Value) (w.alloc (.map #[] 0)) Tryz.prog 9 RV
  have m3 := World.ownsMap_made (H := Value) ((w.alloc (.map #[] 0)).alloc (.map #[] 0)) Tryz.prog 9 RV
  have b := Boxd.new (((w.alloc (.map #[] 0)).alloc (.map #[] 0)).alloc (.map #[] 0)) #[.map (some w.heap.size), .map (some (w.heap.size + 1)), .map (some (w.heap.size + 2)), .int .i64 0] 68
  simp only [World.size_alloc] at m2 m3 b
  exact ⟨b, ((m1.alloc _).alloc _).alloc _, (m2.alloc _).alloc _, m3.alloc _, by omega, by simp, by simp, by simp, (fun k e h => by cases h), (fun k h => by rw [has_nil] at h; cases h), (fun k h => by rw [has_nil] at h; cases h), (fun k h => by rw [has_nil] at h; cases h), (fun k h => by rw [has_nil] at h; cases h)⟩
set_option maxRecDepth 100000 in
theorem new_calls (w : World) : Calls Tryz.prog 21 #[] w (NewPost w) := by
  have hmm := @run_makeMap Tryz.prog
  have HS := Lib.hid (sp_new w)
  unfold NewPost
  go_enter Tryz.func21, Tryz.ntmps21
  go_wp2_with fail
  go_ret
  refine ⟨⟨w.heap.size + 3, w.heap.size, w.heap.size + 1, w.heap.size + 2⟩, rfl, HS.out, ?_, by go_grown⟩
  rintro b (h | h | h | h) <;> (simp only at h; omega)
/-- what room answers: no room, or the line's size is laid -/
def RoomPost (p : SB) (w : World) (DV DN DS : DataW Value) (n : Nat) (k : List UInt8) (e : Ending) (w' : World) : Prop :=
  Turn p w w' ∧ ((e = .returned (.int .i64 4) ∧ w' = w) ∨ (e = .returned (.int .i64 0) ∧ ∃ all' i, Boxd w' p.s #[.map (some p.mv), .map (some p.mn), .map (some p.ms), .int .i64 all'] ∧ HoldsM w' p.mv n DV ∧ HoldsM w' p.mn n DN ∧ HoldsM w' p.ms (n + 1) (DS.put (.string k) (.held (.int .i64 i)))))
theorem room_done {p : SB} {w w2 : World} {all all' i : Int} {DV DN DS : DataW Value} {n : Nat} {σ : Names} {k : List UInt8} (h : Sp p w all DV DN DS n σ) (hg : (w.setCell ⟨p.s, 3, none⟩ (.int .i64 all')).grownBy w2 (some p.ms)) (ho : HoldsM w2 p.ms (n + 1) (DS.put (.string k) (.held (.int .i64 i)))) :
    RoomPost p w DV DN DS n k (.returned (.int .i64 0)) w2 := by
  obtain ⟨s1, s2, s3⟩ := h.sv
  have hsz : (w.setCell ⟨p.s, 3, none⟩ (.int .i64 all')).heap.size = w.heap.size := by simp [World.setCell]
  have hk : ∀ b, b < w.heap.size → b ≠ p.s → b ≠ p.ms → w2.heap[b]? = w.heap[b]? := fun b hb h1 h2 => (hg.block b (by rw [hsz]; exact hb) (fun e => h2 (Option.some.inj e))).trans (Below.heap_setCell _ _ _ _ h1)
  have hs : ∀ o, w2.cell? ⟨p.s, o, none⟩ = (w.setCell ⟨p.s, 3, none⟩ (.int .i64 all')).cell? ⟨p.s, o, none⟩ := fun o => cell_of_heap (hg.block p.s (by rw [hsz]; exact h.box.lt) (fun e => s3 (Option.some.inj e)))
  have hf : ∀ o, w2.frozen? ⟨p.s, o, none⟩ = (w.setCell ⟨p.s, 3, none⟩ (.int .i64 all')).frozen? ⟨p.s, o, none⟩ := fun o => World.frozen?_of_block (a := ⟨p.s, o, none⟩) (hg.block p.s (by rw [hsz]; exact h.box.lt) (fun e => s3 (Option.some.inj e)))
  refine ⟨(Turn.set w 3 _).trans (Turn.of_grown hg (fun g e => by cases e; exact .inr (.inr (.inr rfl)))), .inr ⟨rfl, all', i, ⟨fun j v hj => ?_, fun o => ?_, ?_⟩, h.v.at (hk _ h.v.lt (Ne.symm s1) h.vs), h.nn.at (hk _ h.nn.lt (Ne.symm s2) h.ns), ho⟩⟩
  · rw [hs]
    obtain ⟨c0, c1, c2, c3⟩ := h.box.four
    match j, hj with
    | 0, hj => cases hj; exact (World.cell?_setCell_other _ _ _ _ (by simp)).trans c0
    | 1, hj => cases hj; exact (World.cell?_setCell_other _ _ _ _ (by simp)).trans c1
    | 2, hj => cases hj; exact (World.cell?_setCell_other _ _ _ _ (by simp)).trans c2
    | 3, hj => cases hj; exact World.cell?_setCell_same _ _ _ c3
    | j + 4, hj => simp at hj
  · rw [hf]
    simp [h.box.fz o]
  · have := hg.size
    rw [hsz] at this
    exact Nat.lt_of_lt_of_le h.box.lt this
set_option maxRecDepth 100000 in
set_option maxHeartbeats 2000000 in
theorem room_calls {p : SB} {w : World} {all : Int} {DV DN DS : DataW Value} {n : Nat} {σ : Names} (h : Sp p w all DV DN DS n σ) (s u : ByteArray) (hs : s.size ≤ 140737488355328) :
    Calls Tryz.prog 30 #[.pointer (some ⟨p.s, 0, none⟩), .string s, .string u] w (RoomPost p w DV DN DS n s.data.toList) := by
  obtain ⟨c0, c1, c2, c3⟩ := h.box.four
  have hf := h.box.fz 3
  obtain ⟨s1, s2, s3⟩ := h.sv
  have hkey := key_mk hs
  have HH := Lib.hid h
  have hown := h.s
  have hown2 : ∀ all', HoldsM (w.setCell ⟨p.s, 3, none⟩ (.int .i64 all')) p.ms n DS := fun all' => h.s.at (Below.heap_setCell _ _ _ _ (Ne.symm s3))
  have HO2 := Lib.hid hown2
  have HSZ := Lib.hid (show n < maxLen by have := h.le; unfold maxLen; omega)
  obtain ⟨old, hold⟩ : ∃ old : Int, DS.atKey (.string s.data.toList) (.held (.int .i64 0)) = .held (.int .i64 old) := by
    by_cases hh : Maps.has DS (.string s.data.toList) = true
    · obtain ⟨i, hi⟩ := h.ints _ hh
      exact ⟨i, hi _⟩
    · exact ⟨0, Maps.atKey_of_not_has (by simpa using hh) _⟩
  have HA := Lib.hid hold
  clear h hold hown2
  have HNO := Lib.hid (show RoomPost p w DV DN DS n s.data.toList (.returned (.int .i64 4)) w from ⟨Turn.refl _ _, .inl ⟨rfl, rfl⟩⟩)
  have hlen : ∀ ty, (Builtin.len_ #[64] ty #[.map (some p.ms)]).run Tryz.prog w = .ok (.int .i64 (Maps.size DS)) w := fun ty => hown.len Tryz.underlying64 ty
  cases hh : Maps.has DS (.string s.data.toList)
  · by_cases hz : (256 : Int) ≤ (Maps.size DS : Int)
    · go_enter Tryz.func30, Tryz.ntmps30
      go_wp2_with (at_lookup; refine wpList_lookup_own_ok _ rfl _ _ 64 rfl 9 3 law_string Tryz.underlying64 RV (zero_int _) (.held (.int .i64 0)) [] rfl p.ms n DS rfl hown _ _ rfl hkey ?_; intro v ps hv; obtain rfl := val_of hv HA.out; clear hv; rw [hh])
      go_ret
      exact HNO.out
    · by_cases hbig : (1048576 : Int) < wrap64 (wrap64 (all - old) + wrap64 (wrap64 (s.size + 4 + u.size) + 1))
      · go_enter Tryz.func30, Tryz.ntmps30
        go_wp2_with (at_lookup; refine wpList_lookup_own_ok _ rfl _ _ 64 rfl 9 3 law_string Tryz.underlying64 RV (zero_int _) (.held (.int .i64 0)) [] rfl p.ms n DS rfl hown _ _ rfl hkey ?_; intro v ps hv; obtain rfl := val_of hv HA.out; clear hv; rw [hh])
        go_ret
        exact HNO.out
      · go_enter Tryz.func30, Tryz.ntmps30
        go_wp2_with (first
          | (at_lookup; refine wpList_lookup_own_ok _ rfl _ _ 64 rfl 9 3 law_string Tryz.underlying64 RV (zero_int _) (.held (.int .i64 0)) [] rfl p.ms n DS rfl hown _ _ rfl hkey ?_; intro v ps hv; obtain rfl := val_of hv HA.out; clear hv; rw [hh])
          | (at_mapUpdate; refine wpList_mapUpdate_own _ rfl _ _ _ 64 rfl 9 3 law_string Tryz.underlying64 _ p.ms n _ rfl (HO2.out _) HSZ.out _ _ _ rfl rfl hkey _ [] rfl ?_; intro w2 hown' hgrow; have HD := Lib.hid (room_done HH.out hgrow hown'); clear hown' hgrow c0 c1 c2 c3 hf hown hlen))
        go_ret
        exact HD.out
  · by_cases hbig : (1048576 : Int) < wrap64 (wrap64 (all - old) + wrap64 (wrap64 (s.size + 4 + u.size) + 1))
    · go_enter Tryz.func30, Tryz.ntmps30
      go_wp2_with (at_lookup; refine wpList_lookup_own_ok _ rfl _ _ 64 rfl 9 3 law_string Tryz.underlying64 RV (zero_int _) (.held (.int .i64 0)) [] rfl p.ms n DS rfl hown _ _ rfl hkey ?_; intro v ps hv; obtain rfl := val_of hv HA.out; clear hv; rw [hh])
      go_ret
      exact HNO.out
    · go_enter Tryz.func30, Tryz.ntmps30
      go_wp2_with (first
        | (at_lookup; refine wpList_lookup_own_ok _ rfl _ _ 64 rfl 9 3 law_string Tryz.underlying64 RV (zero_int _) (.held (.int .i64 0)) [] rfl p.ms n DS rfl hown _ _ rfl hkey ?_; intro v ps hv; obtain rfl := val_of hv HA.out; clear hv; rw [hh])
        | (at_mapUpdate; refine wpList_mapUpdate_own _ rfl _ _ _ 64 rfl 9 3 law_string Tryz.underlying64 _ p.ms n _ rfl (HO2.out _) HSZ.out _ _ _ rfl rfl hkey _ [] rfl ?_; intro w2 hown' hgrow; have HD := Lib.hid (room_done HH.out hgrow hown'); clear hown' hgrow c0 c1 c2 c3 hf hown hlen))
      go_ret
      exact HD.out
end Go.Proofs.YtboondbognbnnaaGreatDoor
