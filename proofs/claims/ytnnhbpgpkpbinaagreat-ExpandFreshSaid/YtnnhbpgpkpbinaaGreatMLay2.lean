/- The law's own functions: weigh, Light. -/
import Derived.Test.YtnnhbpgpkpbinaaGreatMLayA
import Derived.Test.YtnnhbpgpkpbinaaGreatMLaw1
set_option linter.unusedVariables false
set_option linter.unusedSimpArgs false
namespace Go.Proofs.YtnnhbpgpkpbinaaGreat
open Go.RowKit

mutual
/-- no long lists -/
def T.small : T → Prop
  | .mk _ _ _ sh a l => sh.length ≤ 524288 ∧ a.length ≤ 524288 ∧ T.smallL l
def T.smallL : List T → Prop
  | [] => True
  | t :: l => T.small t ∧ T.smallL l
end
theorem T.smallL_snoc {l : List T} {u : T} (h : T.smallL l) (hu : T.small u) : T.smallL (l ++ [u]) := by
  induction l with
  | nil => exact ⟨hu, trivial⟩
  | cons t l ih => exact ⟨h.1, ih h.2⟩
theorem T.smallL_mem {l : List T} {u : T} (h : T.smallL l) (hu : u ∈ l) : T.small u := by
  induction l with
  | nil => cases hu
  | cons t l ih =>
    cases hu with
    | head => exact h.1
    | tail _ hu => exact ih h.2 hu
def WeighPost (t : T) (left : Int) (w : World) (e : Ending) (w' : World) : Prop := ∃ k : Int, e = .returned (.int .i64 k) ∧ -1125899906842624 ≤ k ∧ k ≤ left ∧ (0 ≤ k → t.small) ∧ Below w.heap.size w w'
def WeighAll (t : T) : Prop := ∀ (x : TV) (B : Nat) (down left : Int) (w : World), Rep w B t x → B ≤ w.heap.size → -1 ≤ down → down ≤ 255 → 0 ≤ left → left ≤ 524288 →
  Calls Tryz.prog 25 #[x.val, .int .i64 down, .int .i64 left] w (WeighPost t left w)

set_option maxRecDepth 100000 in
set_option maxHeartbeats 4000000 in
theorem weigh_all (t : T) : WeighAll t := by
  refine T.ind (P := WeighAll) ?_ t
  intro k s n sh a l ih x B down left w hr hB hd0 hd1 hl0 hl1
  have hwee := hr.wee
  have ht := hwee.ts
  have hs1 := hwee.s1
  have ha1 := hwee.a1
  have hk1 := hwee.l1
  have HR := Lib.hid hr
  have HL := Lib.hid hr.kl
  have HIH := Lib.hid ih
  have HSL := Lib.hid hr.shape.1
  have HAL := Lib.hid hr.atoms.1
  simp only [T.shape_mk, T.atoms_mk] at HSL HAL
  have hb0 := (Below.refl w.heap.size w).alloc (Nat.le_refl _) (.cells x.cells 29)
  have hbox0 := Box.new w x 29
  simp only [TV.cells] at hb0 hbox0
  have HB0 := Lib.hid hb0
  have HX0 := Lib.hid hbox0
  simp only [T.kids_mk] at HL
  clear hr ih hwee hb0 hbox0
  simp only [TV.val, TV.cells]
  by_cases hd : down < 0
  · go_enter Tryz.func25, Tryz.ntmps25
    go_wp2_with fail
    go_ret
    exact ⟨-1, rfl, by omega, by omega, (fun h => absurd h (by omega)), HB0.out⟩
  · have hd' : 0 ≤ down := by omega
    clear hd
    go_enter Tryz.func25, Tryz.ntmps25
    go_wp2_with fail
    go_loopw [2, 7] (fun v i wr => ∃ (K : Nat) (L : Int), K ≤ x.kl ∧ i = .int .i64 K ∧ v = .int .i64 L ∧ -1125899906842624 ≤ L ∧ L ≤ left - (x.sl : Int) - (x.al : Int) ∧ Hid (0 ≤ L → T.smallL (l.take K)) ∧ Below w.heap.size w wr ∧ Box wr w.heap.size x) (fun _ i _ => x.kl - (intOf i).toNat)
    case atStart => exact ⟨0, _, Nat.zero_le _, rfl, rfl, by omega, by omega, (show 0 ≤ _ → T.smallL (l.take 0) from fun _ => trivial), HB0.out, HX0.out⟩
    case round =>
      obtain ⟨K, L, hK, rfl, rfl, hL0, hL1, HSM, hbel, hbx⟩ := hrel
      have HB := Lib.hid hbel
      have HX := Lib.hid hbx
      clear hbel
      obtain ⟨q0, q1, q2, q3, q4, q5, qf⟩ := hbx
      by_cases hlt : K < x.kl
      · by_cases hL : 0 ≤ L
        · obtain ⟨u, hu⟩ : ∃ u, l[K]? = some u := ⟨l[K]'(by rw [← HL.out]; exact hlt), by simp⟩
          obtain ⟨b, o, y, he, hb, hat, hru⟩ := HR.out.kid (t := T.mk k s n sh a l) (j := K) hu
          have hat' := hat.keep hb (Keeps.of_below HB.out hB)
          have HC := Lib.hid (HIH.out u (List.mem_of_getElem? hu) y B (down - 1) L wr (hru.below HB.out hB) (Nat.le_trans hB HB.out.size) (by omega) (by omega) hL (by omega))
          have HTK := Lib.hid (show l.take (K + 1) = l.take K ++ [u] from by rw [List.take_add_one, hu]; rfl)
          have hbw : b < wr.heap.size := by have := HB.out.size; omega
          have hz := HX.out.lt
          rw [he] at q5
          obtain ⟨p0, p1, p2, p3, p4, p5⟩ := hat'
          simp only [TV.val, TV.cells] at HC
          clear hu hat hru he
          go_wp2_with fail
          refine HC.out.mono ?_
          rintro e w2 ⟨L2, rfl, hL20, hL21, hsm2, hb2⟩
          have HSM2 := Lib.hid (show 0 ≤ L2 → T.smallL (l.take (K + 1)) from fun h => by rw [HTK.out]; exact T.smallL_snoc (HSM.out hL) (hsm2 h))
          clear hsm2
          have HB2 := Lib.hid (HB.out.trans (hb2.mono HB.out.size))
          have HX2 := Lib.hid (HX.out.below hb2 hz)
          clear hb2 p0 p1 p2 p3 p4 p5 q0 q1 q2 q3 q4 q5 qf
          go_wp2_with fail
          go_roundw
          case rel => exact ⟨K + 1, L2, by omega, by go_num, rfl, hL20, by omega, HSM2.out, HB2.out, HX2.out⟩
          case measure => simp [intOf]; omega
        · go_wp2_with fail
          go_ret
          exact ⟨L, rfl, hL0, by omega, (fun h => absurd h (by omega)), HB.out⟩
      · go_wp2_with fail
        go_ret
        refine ⟨L, rfl, hL0, by omega, fun h => ?_, HB.out⟩
        have h1 := HSM.out h
        rw [List.take_of_length_le (by rw [← HL.out]; omega)] at h1
        exact ⟨by rw [HSL.out]; omega, by rw [HAL.out]; omega, h1⟩

/-- Light: a truth; true of terms that are not too great alone -/
def LightPost (t : T) (w : World) (e : Ending) (w' : World) : Prop := ∃ b : Bool, e = .returned (.bool b) ∧ (b = true → t.fits ∧ t.small) ∧ Below w.heap.size w w'
set_option maxRecDepth 100000 in
set_option maxHeartbeats 4000000 in
theorem light_calls (t : T) (x : TV) (B : Nat) (w : World) (hr : Rep w B t x) (hB : B ≤ w.heap.size) :
    Calls Tryz.prog 8 #[x.val] w (LightPost t w) := by
  have HSZ := Lib.hid (fun (W : World) (h : Below w.heap.size w W) => size_later hr hB h)
  have HW := Lib.hid (fun (W : World) (h : Below w.heap.size w W) => weigh_all t x B 255 524288 W (hr.below h hB) (Nat.le_trans hB h.size) (by omega) (by omega) (by omega) (by omega))
  have hb0 := (Below.refl w.heap.size w).alloc (Nat.le_refl _) (.cells x.cells 29)
  have hbox0 := Box.new w x 29
  simp only [TV.cells] at hb0 hbox0
  have HB0 := Lib.hid hb0
  have HX0 := Lib.hid hbox0
  clear hr hb0 hbox0
  simp only [TV.val, TV.cells] at HW ⊢
  by_cases hf : t.fits
  · have hd : decide ((t.sizeN : Int) ≤ 4096) = true := by have := hf.1; simp [T.sizeN, hf]; omega
    have HF := Lib.hid hf
    clear hf
    go_enter Tryz.func8, Tryz.ntmps8
    go_wp2_with fail
    refine (HSZ.out _ HB0.out).mono ?_
    rintro e w1 ⟨rfl, hb1⟩
    have HB1 := Lib.hid (HB0.out.trans (hb1.mono HB0.out.size))
    obtain ⟨q0, q1, q2, q3, q4, q5, qf⟩ := HX0.out.below hb1 (by simp)
    clear hb1
    go_wp2_with fail
    refine (HW.out _ HB1.out).mono ?_
    rintro e w2 ⟨L, rfl, _, _, hsm, hb2⟩
    have HB2 := Lib.hid (HB1.out.trans (hb2.mono HB1.out.size))
    clear hb2 q0 q1 q2 q3 q4 q5 qf
    have HSM := Lib.hid hsm
    clear hsm
    cases hd2 : decide (0 ≤ L)
    all_goals
      go_wp2_with fail
      go_ret
    · exact ⟨false, rfl, (fun h => by cases h), HB2.out⟩
    · exact ⟨true, rfl, fun _ => ⟨HF.out, HSM.out (by simpa using hd2)⟩, HB2.out⟩
  · have hd : decide ((t.sizeN : Int) ≤ 4096) = false := by simp [T.sizeN, hf]
    have HF := Lib.hid hf
    clear hf
    go_enter Tryz.func8, Tryz.ntmps8
    go_wp2_with fail
    refine (HSZ.out _ HB0.out).mono ?_
    rintro e w1 ⟨rfl, hb1⟩
    have HB1 := Lib.hid (HB0.out.trans (hb1.mono HB0.out.size))
    clear hb1
    go_wp2_with fail
    go_ret
    exact ⟨false, rfl, (fun h => by cases h), HB1.out⟩
end Go.Proofs.YtnnhbpgpkpbinaaGreat
