/- The law's own functions: marked. The law's own functions: Kept. -/
import Derived.Test.YtnnhbpgpkpbinaaGreatMLayA
import Derived.Test.YtnnhbpgpkpbinaaGreatMExpB
import Derived.Deep.QuietTactic
import Derived.BigQuiet
import Derived.Deep.Cut
import Derived.Test.YtnnhbpgpkpbinaaGreatMLay3
set_option linter.unusedVariables false
set_option linter.unusedSimpArgs false
namespace Go.Proofs.YtnnhbpgpkpbinaaGreat
open Go.RowKit

def MarkedPost (w : World) (e : Ending) (w' : World) : Prop := e = .returned (.bool true) ∧ Below w.heap.size w w'
def MarkedAll (t : T) : Prop := ∀ (x : TV) (F : List Nat) (w : World), Laid w t x F → (∀ b ∈ F, b < w.heap.size) → Calls Tryz.prog 30 #[x.val] w (MarkedPost w)

set_option maxRecDepth 100000 in
set_option maxHeartbeats 4000000 in
theorem marked_all (t : T) : MarkedAll t := by
  refine T.ind (P := MarkedAll) ?_ t
  intro k s n sh a l ih x F w hl hlt
  simp only [Laid] at hl
  obtain ⟨hw, hk, ht, hn, hkl, b1, b2, b3, F4, rfl, m1, m2, m3, hL⟩ := hl
  have hb0 := (Below.refl w.heap.size w).alloc (Nat.le_refl _) (.cells x.cells 29)
  have hx0 := Box.new w x 29
  have HL := Lib.hid (fun (W : World) (h : Below w.heap.size w W) => LaidL.kept (w' := W) hL (h.block b3 (hlt b3 (by simp))) (fun b hb => h.block b (hlt b (by simp [hb]))))
  have HK := Lib.hid (show ∀ b ∈ F4, b < w.heap.size from fun b hb => hlt b (by simp [hb]))
  have hb1 : b1 < w.heap.size := hlt b1 (by simp)
  have hb2 : b2 < w.heap.size := hlt b2 (by simp)
  have hb3 : b3 < w.heap.size := hlt b3 (by simp)
  have ka := m3.adr
  have sa := m1.adr
  have aa := m2.adr
  have kr := m3.room
  have sr := m1.room
  have ar := m2.room
  have km := m3.max
  have sm := m1.max
  have am := m2.max
  have ls := m1.lens
  have la := m2.lens
  have t1 := m1.at_ x.sl (-71) (by rw [List.getElem?_append_right (by omega), ls, Nat.sub_self]; rfl)
  have t2 := m1.at_ (x.sl + 1) (-72) (by rw [List.getElem?_append_right (by omega), ls, Nat.add_sub_cancel_left]; rfl)
  have t3 := m2.at_ x.al (-73) (by rw [List.getElem?_append_right (by omega), la, Nat.sub_self]; rfl)
  have t4 := m2.at_ (x.al + 1) (-74) (by rw [List.getElem?_append_right (by omega), la, Nat.add_sub_cancel_left]; rfl)
  have u1 := m3.m1
  have u2 := m3.m2
  have hk1 := hw.l1
  have hs1 := hw.s1
  have ha1 := hw.a1
  have HKL := Lib.hid hkl
  have HIH := Lib.hid ih
  unfold maxLen at km sm am
  obtain ⟨xk, xt, xn, xsa, xsl, xsc, xaa, xal, xac, xka, xkl, xkc⟩ := x
  simp only [TV.cells, markTV] at ka sa aa kr sr ar km sm am t1 t2 t3 t4 u1 u2 hk1 hs1 ha1 HKL hb0 hx0
  subst ka sa aa
  have HB0 := Lib.hid hb0
  have HX0 := Lib.hid hx0
  have hp := (Keeps.of_below hb0 (Nat.le_refl _))
  have t1' := (hp b1 _ hb1).trans t1
  have t2' := (hp b1 _ hb1).trans t2
  have t3' := (hp b2 _ hb2).trans t3
  have t4' := (hp b2 _ hb2).trans t4
  have u1' := u1.keep hb3 hp
  have u2' := u2.keep hb3 hp
  obtain ⟨v0, v1, v2, v3, v4, v5⟩ := u1'
  obtain ⟨y0, y1, y2, y3, y4, y5⟩ := u2'
  clear hk ht hn hkl hw m1 m2 m3 hL hlt ih hb0 t1 t2 t3 t4 u1 u2 hp ls la
  simp only at v0 v5 y0 y5
  have i1 : (0 : Int) ≤ (xsl : Int) + 2 := by omega
  have i2 : (0 : Int) ≤ (xal : Int) + 2 := by omega
  have i3 : (0 : Int) ≤ (xkl : Int) + 2 := by omega
  have i4 : (xsl : Int) + 2 ≤ (xsc : Int) := by omega
  have i5 : (xal : Int) + 2 ≤ (xac : Int) := by omega
  have i6 : (xkl : Int) + 2 ≤ (xkc : Int) := by omega
  have w1 : IntKind.i64.wrap ((xsl : Int) + 2) = (xsl : Int) + 2 := by rw [IntKind.wrap_i64]; omega
  have w2 : IntKind.i64.wrap ((xal : Int) + 2) = (xal : Int) + 2 := by rw [IntKind.wrap_i64]; omega
  have w3 : IntKind.i64.wrap ((xkl : Int) + 2) = (xkl : Int) + 2 := by rw [IntKind.wrap_i64]; omega
  have n1 : ((xsl : Int) + 2).toNat = xsl + 2 := by omega
  have n2 : ((xal : Int) + 2).toNat = xal + 2 := by omega
  have n3 : ((xkl : Int) + 2).toNat = xkl + 2 := by omega
  generalize hW : w.alloc (.cells #[.int .i64 xk, .string xt, .int .i64 xn, .slice (some ⟨b1, 0, none⟩) xsl xsc, .slice (some ⟨b2, 0, none⟩) xal xac, .slice (some ⟨b3, 0, none⟩) xkl xkc] 29) = w0 at HB0 HX0 hx0 t1' t2' t3' t4' v0 v1 v2 v3 v4 v5 y0 y1 y2 y3 y4 y5
  obtain ⟨k0, k1, k2, k3, k4, k5, kf⟩ := hx0
  simp only [TV.val, TV.cells]
  go_enter Tryz.func30, Tryz.ntmps30
  go_upto_region 1 with fail
  clear hW
  go_wp2_with fail
  go_quiet (fail)
  go_wp2_with fail
  go_quiet (fail)
  go_wp2_with fail
  clear k0 k1 k2 k3 k4 k5 kf v0 v1 v2 v3 v4 v5 y0 y1 y2 y3 y4 y5 t1' t2' t3' t4' i1 i2 i3 i4 i5 i6 w1 w2 w3 n1 n2 n3
  go_loopw [9] (fun i wr => ∃ K : Nat, K ≤ xkl ∧ i = .int .i64 K ∧ Below w.heap.size w wr ∧ Box wr w.heap.size ⟨xk, xt, xn, some ⟨b1, 0, none⟩, xsl, xsc, some ⟨b2, 0, none⟩, xal, xac, some ⟨b3, 0, none⟩, xkl, xkc⟩) (fun i _ => xkl - (intOf i).toNat)
  case atStart => exact ⟨0, Nat.zero_le _, rfl, below_drewN HB0.out _, HX0.out.drewN _⟩
  case round =>
    obtain ⟨K, hK, rfl, hbel, hbx⟩ := hrel
    have HB := Lib.hid hbel
    have HX := Lib.hid hbx
    obtain ⟨k0, k1, k2, k3, k4, k5, kf⟩ := hbx
    simp only at k0 k1 k2 k3 k4 k5
    by_cases hlt : K < xkl
    · have hKl : K < l.length := by have := HKL.out; omega
      obtain ⟨Fa, Fj, Fb, y, eF, hat, hly, _⟩ := (HL.out wr hbel).get (List.getElem?_eq_getElem hKl)
      have HC := Lib.hid (HIH.out l[K] (List.getElem_mem hKl) y Fj wr hly (fun b hb => by have := HK.out b (by rw [eF]; simp [hb]); have := hbel.size; omega))
      rw [Nat.zero_add] at hat
      obtain ⟨p0, p1, p2, p3, p4, p5⟩ := hat
      simp only [TV.val, TV.cells] at HC
      have hz := HX.out.lt
      have hlt2 : K < xkc := by omega
      clear hbel hly eF
      go_wp2_with fail
      refine HC.out.mono ?_
      rintro e w2 ⟨rfl, hb2'⟩
      have HB2 := Lib.hid (HB.out.trans (hb2'.mono HB.out.size))
      have HX2 := Lib.hid (HX.out.below hb2' hz)
      clear hb2' k0 k1 k2 k3 k4 k5 kf p0 p1 p2 p3 p4 p5
      go_wp2_with fail
      go_roundw
      case rel => exact ⟨K + 1, by omega, by go_num, HB2.out, HX2.out⟩
      case measure => simp [intOf]; omega
    · clear hbel
      go_wp2_with fail
      go_ret
      exact ⟨rfl, HB.out⟩
end Go.Proofs.YtnnhbpgpkpbinaaGreat

namespace Go.Proofs.YtnnhbpgpkpbinaaGreat
open Go.RowKit

/-- Kept of a term that was laid and is as it was: true; then its blocks are written over -/
def KeptPost (F : List Nat) (w : World) (e : Ending) (w' : World) : Prop := e = .returned (.bool true) ∧ Outside F w w'
set_option maxRecDepth 100000 in
set_option maxHeartbeats 1000000 in
theorem kept_calls (t : T) (x y : TV) (F : List Nat) (w : World) (hl : Laid w t x F) (hn : F.Nodup) (hF : ∀ b ∈ F, b < w.heap.size) (hy : Rep w w.heap.size t y) (hf : t.fits) :
    Calls Tryz.prog 12 #[x.val, y.val] w (KeptPost F w) := by
  have hb0 : Below w.heap.size w ((w.alloc (.cells x.cells 29)).alloc (.cells y.cells 29)) := by go_grown
  have hx0 := (Box.new w x 29).alloc (.cells y.cells 29)
  have hy0 := Box.new (w.alloc (.cells x.cells 29)) y 29
  have HE := Lib.hid (fun (W : World) (h : Below w.heap.size w W) => eq_calls t x y W (Rep.mono h.size _ _ ((Laid.rep t x F hl hF).below h (Nat.le_refl _))) (Rep.mono h.size _ _ (hy.below h (Nat.le_refl _))) hf)
  have HM := Lib.hid (fun (W : World) (h : Below w.heap.size w W) => marked_all t x F W (Laid.kept _ _ _ hl (fun b hb => h.block b (hF b hb))) (fun b hb => Nat.lt_of_lt_of_le (hF b hb) h.size))
  have HS := Lib.hid (fun (W : World) (h : Below w.heap.size w W) => smear_all t x F W (Laid.kept _ _ _ hl (fun b hb => h.block b (hF b hb))) hn (fun b hb => Nat.lt_of_lt_of_le (hF b hb) h.size))
  simp only [TV.val, TV.cells, World.size_alloc] at HE HM HS hb0 hx0 hy0 ⊢
  have HB0 := Lib.hid hb0
  have HX0 := Lib.hid hx0
  clear hl hn hF hy hf hb0 hx0 hy0
  go_enter Tryz.func12, Tryz.ntmps12
  go_wp2_with fail
  refine (HE.out _ HB0.out).mono ?_
  rintro e w1 ⟨rfl, hb1⟩
  have HB1 := Lib.hid (HB0.out.trans (hb1.mono HB0.out.size))
  have HX1 := Lib.hid (HX0.out.below hb1 (by simp only [World.size_alloc]; omega))
  obtain ⟨q0, q1, q2, q3, q4, q5, qf⟩ := HX1.out
  have hz1 := HX1.out.lt
  clear hb1
  go_wp2_with fail
  refine (HM.out _ HB1.out).mono ?_
  rintro e w2 ⟨rfl, hb2⟩
  have HB2 := Lib.hid (HB1.out.trans (hb2.mono HB1.out.size))
  have X2 := HX1.out.below hb2 hz1
  clear hb2 q0 q1 q2 q3 q4 q5 qf
  obtain ⟨q0, q1, q2, q3, q4, q5, qf⟩ := X2
  go_wp2_with fail
  refine (HS.out _ HB2.out).mono ?_
  rintro e w3 ⟨rfl, ho⟩
  have HO := Lib.hid ((Outside.of_below HB2.out).trans ho)
  clear ho q0 q1 q2 q3 q4 q5 qf
  go_wp2_with fail
  go_ret
  exact ⟨rfl, HO.out⟩
end Go.Proofs.YtnnhbpgpkpbinaaGreat
