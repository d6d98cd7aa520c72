/- The law's Small. The law's filled: a workspace of some names. Which names a workspace tells: plain facts; rows of lines that are taken over. -/
import Derived.Test.YtboondbognbnnaaGreatDoorQSB
import Derived.Test.YtboondbognbnnaaGreatDoorQSF
import Derived.Maps.Ext
set_option linter.unusedVariables false
set_option linter.unusedSimpArgs false
namespace Go.Proofs.YtboondbognbnnaaGreatDoor
open Go.RowKit
def NodesAll (t : T) : Prop := ∀ (x : TV) (B : Nat) (n : Int) (w : World), Rep w B t x → B ≤ w.heap.size →
  Calls Tryz.prog 24 #[x.val, .int .i64 n] w fun e w' => ∃ k : Int, e = .returned (.int .i64 k) ∧ Below w.heap.size w w'
structure NodRel (w : World) (b : Nat) (x : TV) (wr : World) : Prop where
  below : Below w.heap.size w wr
  bx : Box wr b x
  lt : b < wr.heap.size
theorem NodRel.later {w wr w2 : World} {b : Nat} {x : TV} (h : NodRel w b x wr) (hb : Below wr.heap.size wr w2) : NodRel w b x w2 := ⟨h.below.trans (hb.mono h.below.size), h.bx.below hb h.lt, Nat.lt_of_lt_of_le h.lt hb.size⟩
set_option maxRecDepth 100000 in
set_option maxHeartbeats 2000000 in
theorem nodes_all (t : T) : NodesAll t := by
  refine T.ind (P := NodesAll) ?_ t
  intro k s n sh a l ih x B m w hx hB
  have hwx := hx.wee
  have hk1 := hwx.l1
  have hs1 := hwx.s1
  have ha1 := hwx.a1
  have ht1 := hwx.ts
  have hxl := hx.kl
  have HX := Lib.hid hx
  have HIH := Lib.hid ih
  simp only [T.kids_mk] at hxl
  have HXL := Lib.hid hxl
  clear hx ih hwx hxl
  have hx0 := Box.new w x 29
  have hb0 := (Below.refl w.heap.size w).alloc (Nat.le_refl _) (.cells x.cells 29)
  have HR0 := Lib.hid (show NodRel w w.heap.size x (w.alloc (.cells x.cells 29)) from ⟨hb0, hx0, by simp⟩)
  clear hx0 hb0
  obtain ⟨xk, xt, xn, xsa, xsl, xsc, xaa, xal, xac, xka, xkl, xkc⟩ := x
  unfold TV.cells at HR0
  unfold TV.val TV.cells
  simp only at HR0 HXL hk1 hs1 ha1 ht1
  go_enter Tryz.func24, Tryz.ntmps24
  go_upto_region 1 with fail
  generalize w.alloc _ = w0 at HR0
  obtain ⟨q0, q1, q2, q3, q4, q5, qf⟩ := HR0.out.bx
  simp only at q0 q1 q2 q3 q4 q5
  go_wp2_with fail
  clear q0 q1 q2 q3 q4 q5 qf
  go_loopw [1, 5] (fun v i wr => ∃ (K : Nat) (m : Int), K ≤ xkl ∧ v = .int .i64 m ∧ i = .int .i64 K ∧ NodRel w w.heap.size ⟨xk, xt, xn, xsa, xsl, xsc, xaa, xal, xac, xka, xkl, xkc⟩ wr) (fun _ i _ => xkl - (intOf i).toNat)
  case atStart => exact ⟨0, _, Nat.zero_le _, rfl, rfl, HR0.out⟩
  case round =>
    obtain ⟨K, m, hK, rfl, rfl, hrel⟩ := hrel
    have HREL := Lib.hid hrel
    obtain ⟨q0, q1, q2, q3, q4, q5, qf⟩ := hrel.bx
    simp only at q0 q1 q2 q3 q4 q5
    have hkeep : Keeps B w wr := Keeps.of_below hrel.below hB
    have hsz := hrel.below.size
    clear hrel
    by_cases hlt : K < xkl
    · have hk0 : (0 : Int) ≤ (K : Int) := by omega
      have hk1' : (K : Int) < (xkl : Int) := by omega
      by_cases hm : (0 : Int) ≤ m
      · have hKl : K < l.length := by rw [← HXL.out]; exact hlt
        have hu : l[K]? = some l[K] := List.getElem?_eq_getElem hKl
        obtain ⟨b1, o1, y1, e1, hb1, hat1, hr1⟩ := HX.out.kid (t := T.mk k s n sh a l) (j := K) hu
        have HC := Lib.hid (HIH.out l[K] (List.getElem_mem hKl) y1 B m wr (Rep.keep hkeep _ _ hr1) (Nat.le_trans hB hsz))
        obtain ⟨p0, p1, p2, p3, p4, p5⟩ := hat1.keep hb1 hkeep
        simp only at e1
        rw [e1] at q5
        simp only [TV.val, TV.cells] at HC
        clear hkeep hat1 hr1 e1 hu hsz
        go_wp2_with (go_at_call 24; (refine HC.out.mono ?_); rintro e w2 ⟨m2, rfl, hb2⟩; have HST := Lib.hid (HREL.out.later hb2); clear hb2 q0 q1 q2 q3 q4 q5 qf p0 p1 p2 p3 p4 p5)
        go_roundw
        case rel => exact ⟨K + 1, m2, by omega, rfl, by go_num, HST.out⟩
        case measure => simp [intOf]; omega
      · clear hkeep hsz
        go_wp2_with fail
        go_ret
        first | exact ⟨⟨m, rfl⟩, HREL.out.below⟩ | exact ⟨m, rfl, HREL.out.below⟩
    · clear hkeep hsz
      go_wp2_with fail
      go_ret
      first | exact ⟨⟨m, rfl⟩, HREL.out.below⟩ | exact ⟨m, rfl, HREL.out.below⟩
theorem small_calls (t : T) (x : TV) (B : Nat) (w : World) (hr : Rep w B t x) (hB : B ≤ w.heap.size) :
    Calls Tryz.prog 6 #[x.val] w fun e w' => ∃ b : Bool, e = .returned (.bool b) ∧ Below w.heap.size w w' := by
  have hx0 := Box.new w x 29
  have hb0 := (Below.refl w.heap.size w).alloc (Nat.le_refl _) (.cells x.cells 29)
  have HC := Lib.hid (nodes_all t x B 5000 _ (hr.below hb0 hB) (Nat.le_trans hB hb0.size))
  have HB := Lib.hid hb0
  have HX := Lib.hid hx0
  clear hb0 hx0 hr
  unfold TV.val at HC ⊢
  unfold TV.cells at HC HB HX ⊢
  go_enter Tryz.func6, Tryz.ntmps6
  go_upto_region 1 with fail
  generalize w.alloc _ = w0 at HC HB HX
  obtain ⟨q0, q1, q2, q3, q4, q5, qf⟩ := HX.out
  go_wp2_with (go_at_call 24; refine HC.out.mono ?_; rintro e w2 ⟨m2, rfl, hb2⟩; have HB2 := Lib.hid (HB.out.trans (hb2.mono HB.out.size)); clear hb2 q0 q1 q2 q3 q4 q5 qf)
  go_ret
  exact ⟨_, rfl, HB2.out⟩
end Go.Proofs.YtboondbognbnnaaGreatDoor

namespace Go.Proofs.YtboondbognbnnaaGreatDoor
open Go.RowKit
/-- numbers in range -/
def DR.ok (r : DR) : Prop := Pp.rng r.t = true ∧ (∀ v ∈ r.sh, Pz.inRange v = true) ∧ (∀ v ∈ r.a, Pz.inRange v = true)
theorem SpN.later {p : SB} {w w' : World} {n : Nat} {σ : Names} (h : SpN p w n σ) (hb : Below w.heap.size w w') : SpN p w' n σ := by
  obtain ⟨all, DV, DN, DS, h⟩ := h
  exact ⟨all, DV, DN, DS, h.later hb⟩
theorem SpN.mono {p : SB} {w : World} {n n' : Nat} {σ : Names} (h : SpN p w n σ) (hn : n ≤ n') (hl : n' ≤ 100000) : SpN p w n' σ := by
  obtain ⟨all, DV, DN, DS, h⟩ := h
  exact ⟨all, DV, DN, DS, h.mono hn hl⟩
/-- some names -/
def Some_ (p : SB) (w : World) (n : Nat) : Prop := ∃ σ, SpN p w n σ
def FillRel (p : SB) (w : World) (k : Nat) (wr : World) : Prop := Some_ p wr (2 * k) ∧ (∀ b, p.has b → w.heap.size ≤ b) ∧ Below w.heap.size w wr
def FillPost (w : World) (e : Ending) (w' : World) : Prop := ∃ p : SB, e = .returned (.pointer (some ⟨p.s, 0, none⟩)) ∧ Some_ p w' 600 ∧ (∀ b, p.has b → w.heap.size ≤ b) ∧ Below w.heap.size w w'
theorem FillRel.lay {p : SB} {w wr w2 : World} {k : Nat} {n : Nat} {σ : Names} {key : List UInt8} {m : Mng} {ok : Prop} {r : Int} (h : FillRel p w k wr) (ht : Turn p wr w2) (hc : (r = 0 ∧ ok ∧ SpN p w2 (n + 1) (σ.put key m)) ∨ (r ≠ 0 ∧ SpN p w2 (n + 1) σ)) : Some_ p w2 (n + 1) ∧ Below w.heap.size w w2 := by
  refine ⟨?_, h.2.2.trans (ht.below h.2.2.size h.2.1)⟩
  rcases hc with ⟨_, _, h⟩ | ⟨_, h⟩
  · exact ⟨_, h⟩
  · exact ⟨_, h⟩
theorem FillRel.safe {p : SB} {w wr : World} {k : Nat} (h : FillRel p w k wr) : ∀ b, b < w.heap.size → p.safe wr b := fun b hb => ⟨Nat.lt_of_lt_of_le hb h.2.2.size, fun e => by have := h.2.1 b e; omega⟩
set_option maxRecDepth 100000 in
set_option maxHeartbeats 4000000 in
theorem filled_calls {A : Option Addr} {len cap : Nat} {L : List DR} {w : World} (hL : DefsAt w (· < w.heap.size) A len L) (hok : ∀ r ∈ L, r.ok) (hl : len ≤ 17592186044416) (hT : Tabs w.heap.size w) :
    Calls Tryz.prog 7 #[.slice A len cap] w (FillPost w) := by
  have H := Lib.hid hL
  have HOK := Lib.hid hok
  have HT := Lib.hid hT
  have hlen := hL.1
  clear hL hok hT
  have h00 : (0 : Int) ≤ (len : Int) := Int.natCast_nonneg _
  have HN := Lib.hid (new_calls w)
  unfold NewPost at HN
  unfold FillPost
  go_enter Tryz.func7, Tryz.ntmps7
  go_wp2_with (go_at_call 21; refine HN.out.mono ?_; rintro e w1 ⟨p, rfl, hsp, hp, hb1⟩; have HR := Lib.hid (show FillRel p w 0 w1 from ⟨⟨_, _, _, _, _, hsp⟩, hp, hb1⟩); clear hsp hp hb1)
  go_loopw [4] (fun i wr => ∃ k : Nat, k ≤ len ∧ k ≤ 300 ∧ i = .int .i64 k ∧ FillRel p w k wr) (fun i _ => len - (intOf i).toNat)
  case atStart => exact ⟨0, Nat.zero_le _, by omega, rfl, HR.out⟩
  case round =>
    obtain ⟨k, hk, hk3, rfl, hrel⟩ := hrel
    have HREL := Lib.hid hrel
    have HB := Lib.hid hrel.2.2
    clear hrel
    have k0 : (0 : Int) ≤ (k : Int) := Int.natCast_nonneg _
    by_cases hlt : k < len ∧ k < 300
    · obtain ⟨hlt, hlt3⟩ := hlt
      have k1 : (k : Int) < (len : Int) := Int.ofNat_lt.2 hlt
      have k3 : (k : Int) < 300 := by omega
      have hw : wrap64 ((k : Int) + 1) = ((k + 1 : Nat) : Int) := wrap_succ (by omega)
      obtain ⟨r, hr⟩ : ∃ r, L[k]? = some r := ⟨L[k]'(by omega), by simp⟩
      have HRO := Lib.hid (HOK.out r (List.mem_of_getElem? hr))
      have hkk : ∀ b o, b < w.heap.size → wr.cell? ⟨b, o, none⟩ = w.cell? ⟨b, o, none⟩ := fun b o hb => HB.out.cell (p := ⟨b, o, none⟩) hb
      obtain ⟨b1, o1, e1, hb1, hc1⟩ := (H.out.keep (S' := (· < w.heap.size)) hkk (fun _ h => h)).2 (by omega)
      obtain ⟨d, hd, hcell⟩ := hc1 k r hr
      obtain ⟨s, t, a⟩ := d
      have n1 := cells9 hcell
      have HN1 := Lib.hid n1
      have HD := Lib.hid hd
      have HL1 := Lib.hid hb1
      have hsz := hd.sz
      simp only at hsz
      have HSM := Lib.hid (small_calls r.t t w.heap.size wr (RepS.rep (fun _ h => h) _ _ hd.t) HB.out.size)
      subst e1
      obtain ⟨p0, p1, p2, p3, p4, p5, p6, p7, p8⟩ := n1.all
      simp only at p0 p1 p2 p3 p4 p5 p6 p7 p8 HN1
      clear hkk hc1 hcell hd n1 hr hb1
      unfold TV.val TV.cells at HSM
      go_upto_region 6 with (go_at_call 6; refine HSM.out.mono ?_; rintro e w2 ⟨q, rfl, hb2⟩; have HB2 := Lib.hid hb2; have HREL2 := Lib.hid (show FillRel p w k w2 from ⟨by obtain ⟨σ, h⟩ := HREL.out.1; exact ⟨σ, h.later hb2⟩, HREL.out.2.1, HB.out.trans (hb2.mono HB.out.size)⟩); have HN2 := Lib.hid (HN1.out.later hb2 (Nat.lt_of_lt_of_le HL1.out HB.out.size)); clear hb2 p0 p1 p2 p3 p4 p5 p6 p7 p8)
      · go_roundw
        case rel => exact ⟨k + 1, hlt, by omega, by go_num, by obtain ⟨σ, h⟩ := HREL2.out.1; exact ⟨σ, h.mono (by omega) (by omega)⟩, HREL2.out.2.1, HREL2.out.2.2⟩
        case measure => exact sm_meas (by first | exact Int.lt_succ _ | (rw [hw]; exact Int.lt_succ _)) k0 k1
      · obtain ⟨σ, all, DV, DN, DS, hsp⟩ := HREL2.out.1
        have hdw : Below w2.heap.size w2 w2.drew := (Below.refl _ _).drew
        have HRD := Lib.hid (show FillRel p w k w2.drew from ⟨⟨σ, all, DV, DN, DS, hsp.later hdw⟩, HREL2.out.2.1, HREL2.out.2.2.trans (hdw.mono HREL2.out.2.2.size)⟩)
        have hrs : RepS w2.drew (p.safe w2.drew) r.t t := RepS.keep (w := wr) (w' := w2.drew) (S := (· < w.heap.size)) (fun b o hb => cell_of_heap (w' := w2.drew) (HB2.out.block b (Nat.lt_of_lt_of_le hb HB.out.size))) HRD.out.safe _ _ HD.out.t
        have HSV := Lib.hid (setVerb_calls (hsp.later hdw) s hsz (by omega) hrs HRO.out.1 (HT.out.up HRD.out.2.2 HRD.out.2.2.size))
        have hl2 : b1 < w2.heap.size := Nat.lt_of_lt_of_le HL1.out HREL2.out.2.2.size
        have HL2 := Lib.hid hl2
        obtain ⟨p0, p1, p2, p3, p4, p5, p6, p7, p8⟩ := HN2.out.all
        simp only at p0 p1 p2 p3 p4 p5 p6 p7 p8
        clear hsp hrs hl2
        unfold TV.val TV.cells SetPost at HSV
        go_wp2_with fail
        refine still_tail 11 (by kernel_rfl) (by kernel_rfl) ?_
        simp only [List.take_succ_cons, List.take_zero, List.drop_succ_cons, List.drop_zero]
        repeat still_step
        refine wpStill_nil ?_
        go_upto_region 7 with (go_at_call 9; (with_reducible refine HSV.out.mono ?_); rintro e w3 ⟨r1, rfl, ht3, hc3⟩; have HT3 := Lib.hid ht3; have HS3 := Lib.hid (HRD.out.lay ht3 hc3); clear ht3 hc3 p0 p1 p2 p3 p4 p5 p6 p7 p8)
        by_cases hr1 : r1 = 1
        · subst hr1
          obtain ⟨⟨σ3, all3, DV3, DN3, DS3, hsp3⟩, hb3⟩ := HS3.out
          have hdw3 : Below w3.heap.size w3 w3.drew := (Below.refl _ _).drew
          have HRD3 := Lib.hid (show FillRel p w k w3.drew ∨ True from .inr trivial)
          have hsafe3 : ∀ b, b < w.heap.size → p.safe w3.drew b := fun b hb => ⟨Nat.lt_of_lt_of_le hb hb3.size, fun e => by have := HREL2.out.2.1 b e; omega⟩
          have hb03 : Below w.heap.size w w3.drew := hb3.trans (hdw3.mono hb3.size)
          have HSF := Lib.hid hb03
          have har : ARepS w3.drew (p.safe w3.drew) r.sh r.a a := HD.out.a.keep (fun b o hb => cell_of_heap ((hb3.block b hb).trans (HB.out.block b hb).symm)) hsafe3
          have HSN := Lib.hid (setNoun_calls (hsp3.later hdw3) s hsz (by omega) har HRO.out.2.1 HRO.out.2.2 (HT.out.up hb03 hb03.size))
          have n3 : Cells9 w3 b1 (o1 + k * 9) ⟨s, t, a⟩ := by
            have hk := (hb3.block b1 HL1.out).trans (HREL2.out.2.2.block b1 HL1.out).symm
            have h2 := HN2.out
            exact ⟨(cell_of_heap hk).trans h2.c0, (cell_of_heap hk).trans h2.c1, (cell_of_heap hk).trans h2.c2, (cell_of_heap hk).trans h2.c3, (cell_of_heap hk).trans h2.c4, (cell_of_heap hk).trans h2.c5, (cell_of_heap hk).trans h2.c6, (cell_of_heap hk).trans h2.c7, (cell_of_heap hk).trans h2.c8⟩
          obtain ⟨p0, p1, p2, p3, p4, p5, p6, p7, p8⟩ := n3.all
          simp only at p0 p1 p2 p3 p4 p5 p6 p7 p8
          clear hsp3 har n3 hsafe3 HRD3 hb03
          unfold AV.val AV.cells SetPost at HSN
          go_wp2_with fail
          refine still_tail 11 (by kernel_rfl) (by kernel_rfl) ?_
          simp only [List.take_succ_cons, List.take_zero, List.drop_succ_cons, List.drop_zero]
          repeat still_step
          refine wpStill_nil ?_
          go_wp2_with (go_at_call 13; (with_reducible refine HSN.out.mono ?_); rintro e w4 ⟨r2, rfl, ht4, hc4⟩; have HR4 := Lib.hid (show Some_ p w4 (2 * k + 1 + 1) ∧ Below w.heap.size w w4 from ⟨by rcases hc4 with ⟨_, _, h⟩ | ⟨_, h⟩ <;> exact ⟨_, h⟩, HSF.out.trans (ht4.below HSF.out.size HREL2.out.2.1)⟩); clear ht4 hc4 p0 p1 p2 p3 p4 p5 p6 p7 p8)
          go_roundw
          case rel => exact ⟨k + 1, hlt, by omega, by go_num, by obtain ⟨σ, h⟩ := HR4.out.1; exact ⟨σ, h.mono (by omega) (by omega)⟩, HREL2.out.2.1, HR4.out.2⟩
          case measure => exact sm_meas (by first | exact Int.lt_succ _ | (rw [hw]; exact Int.lt_succ _)) k0 k1
        · have f1 : (r1 == 1) = false := by simpa using hr1
          clear hr1
          go_wp2_with fail
          go_roundw
          case rel => exact ⟨k + 1, hlt, by omega, by go_num, by obtain ⟨σ, h⟩ := HS3.out.1; exact ⟨σ, h.mono (by omega) (by omega)⟩, HREL2.out.2.1, HS3.out.2⟩
          case measure => exact sm_meas (by first | exact Int.lt_succ _ | (rw [hw]; exact Int.lt_succ _)) k0 k1
    · have HF := Lib.hid (show Some_ p wr 600 from by obtain ⟨σ, h⟩ := HREL.out.1; exact ⟨σ, h.mono (by omega) (by omega)⟩)
      by_cases h1 : k < len
      · have k1 : (k : Int) < (len : Int) := Int.ofNat_lt.2 h1
        have k3 : ¬ (k : Int) < 300 := by omega
        go_wp2_with fail
        go_ret
        exact ⟨p, rfl, HF.out, HREL.out.2.1, HREL.out.2.2⟩
      · have k1 : ¬ (k : Int) < (len : Int) := by omega
        go_wp2_with fail
        go_ret
        exact ⟨p, rfl, HF.out, HREL.out.2.1, HREL.out.2.2⟩
end Go.Proofs.YtboondbognbnnaaGreatDoor

namespace Go.Proofs.YtboondbognbnnaaGreatDoor
open Go.RowKit Go.WideMaps
theorem strKeys_facts {w : World} {b n : Nat} {D : DataW Value} (h : HoldsM w b n D) : (strKeys D).Nodup ∧ ∀ k, k ∈ strKeys D ↔ Maps.has D (.string k) = true := by
  obtain ⟨es, rfl, hp⟩ := World.ownsMap.tidy h law_string
  obtain ⟨es', e, hkeys⟩ := World.ownsMap.keysOf h
  cases e
  have hs : ∀ q ∈ es, ∃ x, q.1 = .string x := fun q hq => by
    obtain ⟨v, hv⟩ := hkeys q hq
    obtain ⟨x, _, hx, _⟩ := Maps.keyOf_str Tryz.underlying9 hv
    exact ⟨x, hx⟩
  refine ⟨?_, fun k => ?_⟩
  · show (es.map fun q => strOf q.1).Nodup
    refine List.pairwise_map.2 (hp.imp_of_mem fun {a b} ha hb hne e => hne ?_)
    obtain ⟨x, hx⟩ := hs a ha
    obtain ⟨y, hy⟩ := hs b hb
    rw [hx, hy] at e ⊢
    exact congrArg _ e
  · rw [Maps.has_eq, List.any_eq_true]
    constructor
    · intro hk
      obtain ⟨q, hq, e⟩ := List.mem_map.1 hk
      obtain ⟨x, hx⟩ := hs q hq
      refine ⟨q, hq, ?_⟩
      rw [hx] at e ⊢
      have : x = k := e
      rw [this]
      exact WideAt.sameKey_self (isKey k)
    · rintro ⟨q, hq, e⟩
      refine List.mem_map.2 ⟨q, hq, ?_⟩
      have := WideAt.sameKey_eq e
      rw [this]
      rfl
theorem Sp.has_iff {p : SB} {w : World} {all : Int} {DV DN DS : DataW Value} {n : Nat} {σ : Names} (h : Sp p w all DV DN DS n σ) (k : List UInt8) : k ∈ strKeys DS ↔ (σ k).isSome = true := by
  rw [(strKeys_facts h.s).2 k]
  constructor
  · exact h.hs k
  · intro hk
    obtain ⟨e, he⟩ := Option.isSome_iff_exists.1 hk
    exact (h.at_ k e he).1
/-- the same names: the same list -/
theorem list_same {p q : SB} {w w' : World} {all all' : Int} {DV DN DS DV' DN' DS' : DataW Value} {n n' : Nat} {σ : Names} (h : Sp p w all DV DN DS n σ) (k : Sp q w' all' DV' DN' DS' n' σ) : listOf σ DS' = listOf σ DS := by
  unfold listOf keysS
  rw [mergeSort_of_perm ((List.perm_ext_iff_of_nodup (strKeys_facts k.s).1 (strKeys_facts h.s).1).2 fun x => by rw [k.has_iff, h.has_iff])]
theorem leB_trans : ∀ a b c : List UInt8, leB a b = true → leB b c = true → leB a c = true := fun a b c h1 h2 => by simp only [leB, decide_eq_true_eq] at *; exact List.le_trans h1 h2
theorem leB_total : ∀ a b : List UInt8, (leB a b || leB b a) = true := fun a b => by simp only [leB, Bool.or_eq_true, decide_eq_true_eq]; exact List.le_total a b
/-- one name less: the list without it -/
theorem list_less {p q : SB} {w w' : World} {all all' : Int} {DV DN DS DV' DN' DS' : DataW Value} {n n' : Nat} {σ σ' : Names} {key : List UInt8} (h : Sp p w all DV DN DS n σ) (k : Sp q w' all' DV' DN' DS' n' σ') (hσ : ∀ j, σ' j = if j = key then none else σ j) : listOf σ' DS' = (listOf σ DS).filter fun r => decide (r.k ≠ key) := by
  have hk : keysS DS' = (keysS DS).filter fun j => decide (j ≠ key) := by
    have hp : (strKeys DS').Perm ((keysS DS).filter fun j => decide (j ≠ key)) := by
      refine (List.perm_ext_iff_of_nodup (strKeys_facts k.s).1 (((List.mergeSort_perm _ _).nodup_iff.2 (strKeys_facts h.s).1).filter _)).2 fun x => ?_
      rw [k.has_iff, List.mem_filter, hσ]
      rw [(List.mergeSort_perm _ _).mem_iff, h.has_iff]
      by_cases e : x = key <;> simp [e]
    unfold keysS at hp ⊢
    rw [mergeSort_of_perm hp, List.mergeSort_of_pairwise ((List.pairwise_mergeSort leB_trans leB_total _).filter _)]
  unfold listOf
  rw [hk, List.filter_map]
  have e1 : ∀ l : List (List UInt8), (l.filter fun j => decide (j ≠ key)).map (drOf σ') = (l.filter ((fun r : DR => decide (r.k ≠ key)) ∘ drOf σ)).map (drOf σ) := fun l => by
    have e2 : (l.filter ((fun r : DR => decide (r.k ≠ key)) ∘ drOf σ)) = l.filter fun j => decide (j ≠ key) := List.filter_congr fun j _ => by simp only [Function.comp, drOf_k]
    rw [e2]
    refine List.map_congr_left fun j hj => ?_
    have hne := (List.mem_filter.1 hj).2
    have hne : j ≠ key := by simpa using hne
    unfold drOf
    rw [hσ, if_neg hne]
  exact e1 _
/-- a row of lines taken over from below base -/
structure RRow (base : Nat) (L : List DR) (v : Value) (wr : World) : Prop where
  row : ∃ ds : List DefV, wr.ownsRow base 49 9 v L.length (flat9 ds) ∧ ds.length = L.length ∧ ∀ (j : Nat) (r : DR), L[j]? = some r → ∃ d, ds[j]? = some d ∧ DefS wr (· < base) r d
theorem RRow.start (base : Nat) (w : World) : RRow base [] (.slice none 0 0) w := ⟨[], World.ownsRow_nil _ _ _ _, rfl, fun j r h => by simp at h⟩
theorem RRow.step {base : Nat} {L : List DR} {v v' : Value} {wr w5 : World} {r : DR} {d : DefV} {ds : List DefV} {o : Obj} (h1 : wr.ownsRow base 49 9 v L.length (flat9 ds)) (h2 : ds.length = L.length) (h3 : ∀ (j : Nat) (r : DR), L[j]? = some r → ∃ d, ds[j]? = some d ∧ DefS wr (· < base) r d) (hw : base ≤ wr.heap.size)
    (hd : DefS wr (· < base) r d) (hrow : w5.ownsRow base 49 9 v' (L.length + 1) (flat9 ds ++ d.cells.toList)) (hg : (wr.alloc o).grownBy w5 v.ownBlock) : RRow base (L ++ [r]) v' w5 ∧ Below base wr w5 := by
  have hlt := h1.lt
  have hk : ∀ b, b < base → w5.heap[b]? = wr.heap[b]? := fun b hb => (hg.block b (by simp; omega) (fun e => by have := (hlt b e.symm).1; omega)).trans (((Below.refl wr.heap.size wr).alloc (Nat.le_refl _) o).block b (by omega))
  refine ⟨⟨ds ++ [d], by rw [flat9_snoc, List.length_append]; exact hrow, by simp [h2], fun j s hj => ?_⟩, ?_⟩
  · rcases Nat.lt_or_ge j L.length with h | h
    · rw [List.getElem?_append_left h] at hj
      obtain ⟨d', hd', hS⟩ := h3 j s hj
      exact ⟨d', by rw [List.getElem?_append_left (by omega)]; exact hd', hS.keep (fun b o hb => cell_of_heap (hk b hb)) (fun _ h => h)⟩
    · rw [List.getElem?_append_right h] at hj
      have hj0 : j - L.length = 0 := by
        have := (List.getElem?_eq_some_iff.1 hj).1
        simp at this; omega
      rw [hj0] at hj
      simp at hj
      subst hj
      exact ⟨d, by rw [List.getElem?_append_right (by omega), h2, hj0]; simp, hd.keep (fun b o hb => cell_of_heap (hk b hb)) (fun _ h => h)⟩
  · exact ((Below.refl base wr).alloc hw o).grown hg (by simp; omega) (fun g e => (hlt g e).1)
theorem RRow.ends {base : Nat} {L : List DR} {v : Value} {w : World} (h : RRow base L v w) : ∃ A c, v = .slice A L.length c ∧ DefsAt w (· < w.heap.size) A L.length L := by
  obtain ⟨ds, h1, h2, h3⟩ := h.row
  rcases h1.2 with ⟨rfl, h0⟩ | ⟨g, cap, cur, rfl, hbg, hgg, rest⟩
  · exact ⟨none, 0, by rw [h0], rfl, fun hl => by omega⟩
  · have hg := (Array.getElem?_eq_some_iff.1 hgg).1
    refine ⟨_, cap, rfl, rfl, fun hl => ⟨g, 0, rfl, hg, fun j r hj => ?_⟩⟩
    obtain ⟨d, hd, hS⟩ := h3 j r hj
    refine ⟨d, hS.keep (fun _ _ _ => rfl) (fun b hb => Nat.lt_of_lt_of_le hb (Nat.le_trans hbg (Nat.le_of_lt hg))), fun i v hv => ?_⟩
    have := h1.cells (g := g) rfl _ _ (flat9_get ds j i d v hd hv (cells_lt hv))
    rw [Lib.add_plain, Nat.zero_add] at this
    rw [Nat.zero_add]
    exact this
end Go.Proofs.YtboondbognbnnaaGreatDoor
