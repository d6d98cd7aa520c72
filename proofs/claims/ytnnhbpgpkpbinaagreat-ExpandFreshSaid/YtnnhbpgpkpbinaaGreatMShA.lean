/- The law's Shelf: own, as the document's. The law's Shelf: how it lies in memory. The law's Shelf: an element appended as nothing and written then. The law's Shelf: Keep. -/
import Derived.Test.YtnnhbpgpkpbinaaGreatMRefG
import Derived.Test.YtnnhbpgpkpbinaaGreatMBkA
import Derived.Test.YtnnhbpgpkpbinaaGreatMRefE
import Derived.Test.YtnnhbpgpkpbinaaGreatMLay2
import Derived.Test.YtnnhbpgpkpbinaaGreatMExp10
import Derived.Deep.CutRange
import Derived.Deep.RegionLaw
import Derived.Deep.AppendLies
import Derived.Deep.Cut
set_option linter.unusedVariables false
set_option linter.unusedSimpArgs false
namespace Go.Proofs.YtnnhbpgpkpbinaaGreat
open Go.RowKit

def OwnLaw (t : T) : Prop := t.nodes ≤ 4096 → ∀ (x : TV) (B : Nat) (w : World), Rep w B t x → B ≤ w.heap.size → Calls Tryz.prog 36 #[x.val] w (TermPost NoS t w)
set_option maxRecDepth 100000 in
set_option maxHeartbeats 4000000 in
theorem own_law (t : T) : OwnLaw t := by
  refine T.ind (P := OwnLaw) ?_ t
  intro k s n sh a l ih hn x B w hr hB
  have hl4 : l.length ≤ 4096 := by have := T.length_le_nodes l; simp only [T.nodes] at hn; omega
  have hkl : x.kl = l.length := hr.kl
  have hk4 : x.kl ≤ 4096 := by omega
  have hs1 := hr.wee.s1
  have ha1 := hr.wee.a1
  have HS := Lib.hid (fun (W : World) (h : Below w.heap.size w W) => hr.shape.keep (Keeps.of_below h hB))
  have HA := Lib.hid (fun (W : World) (h : Below w.heap.size w W) => hr.atoms.keep (Keeps.of_below h hB))
  simp only [T.shape_mk, T.atoms_mk] at HS HA
  have HKL := Lib.hid hkl
  have HR := Lib.hid hr
  have HIH := Lib.hid ih
  have HB0 := Lib.hid (two_below w x)
  have X0 := two_box w x
  have R0 := Lib.hid (two_res w x)
  have hz0 : w.heap.size + 2 ≤ (two w x).heap.size := Nat.le_of_eq (two_size w x).symm
  have HZ0 := Lib.hid hz0
  have HX0 := Lib.hid X0
  clear hr ih X0 hz0 hkl
  simp only [TV.val, TV.cells]
  obtain ⟨i0, hi0, hz0, hz1, hz2⟩ := info_parts info_int0
  obtain ⟨j0, hj0, hy0, hy1, hy2⟩ := info_parts info_int640
  go_enter Tryz.func36, Tryz.ntmps36
  go_upto_region 1 with fail
  go_cut [] from 5 to 14 (fun wq => ∃ A1 c1 A2 c2, OwnNums w wq x sh a A1 c1 A2 c2 ∧ x.sl ≤ c1 ∧ c1 ≤ maxLen ∧ x.al ≤ c2 ∧ c2 ≤ maxLen)
  case first =>
   go_region_law (first
    | (refine step_append_ints (by rfl) _ _ 23 (by rfl) (w.heap.size + 2) 3 i0 (.int .i64 0) Tryz.underlying23 hi0 hz0 hz1 hz2 (by rfl) (.slice none 0 0) 0 [] (by rfl) (World.ownsRow_nil _ _ _ _) x.sa x.sl x.sc B sh (by rfl) (HS.out _ (by first | exact HB0.out | exact HB0.out.drew | exact HB2.out)) (by unfold maxLen; omega) (by omega) (by first | exact HZ0.out | exact hq2) ?_; intro v1 w1 hown1 hgrow1 _; have HB1 := Lib.hid (show Below w.heap.size w w1 from by first | exact below_grown_none HB0.out hgrow1 HB0.out.size | exact below_grown_none HB0.out.drew hgrow1 HB0.out.size | exact below_grown_none HB2.out hgrow1 HB2.out.size); have hq1 : w.heap.size + 2 ≤ w1.heap.size := (by first | exact Nat.le_trans HZ0.out hgrow1.size | exact Nat.le_trans hq2 hgrow1.size); have X1 : Box w1 w.heap.size x := (by first | exact HX0.out.grown hgrow1 (by simp [Value.ownBlock]) | exact HX0.out.drew.grown hgrow1 (by simp [Value.ownBlock]) | exact HX2.out.grown hgrow1 (by simp [Value.ownBlock])); have HX1 := Lib.hid X1; have RR1 := Lib.hid (show Box w1 (w.heap.size + 1) zeroTV from by first | exact R0.out.grown hgrow1 (by simp [Value.ownBlock]) | exact R0.out.drew.grown hgrow1 (by simp [Value.ownBlock]) | exact RR2.out.grown hgrow1 (by simp [Value.ownBlock])); obtain ⟨k0, k1, k2, k3, k4, k5, kf⟩ := X1; obtain ⟨A1, c1, rfl, hc1, hm1, hrf1⟩ := row_form (xs := sh) (n := x.sl) (by simpa using hown1); have HF1 := Lib.hid (ints_own hown1 hrf1); clear hrf1; have HG1 := Lib.hid (show w1.grownBy w1 none from World.grownBy.refl _ _); have HI2 := Lib.hid (show True ∨ True from .inl trivial); (try have HI2 := Lib.hid (IntsS.grown HF2.out hgrow1)); clear hgrow1 hown1)
    | (refine step_append_ints (by rfl) _ _ 25 (by rfl) (w.heap.size + 2) 2 j0 (.int .i64 0) Tryz.underlying25 hj0 hy0 hy1 hy2 (by rfl) (.slice none 0 0) 0 [] (by rfl) (World.ownsRow_nil _ _ _ _) x.aa x.al x.ac B a (by rfl) (HA.out _ (by first | exact HB0.out | exact HB0.out.drew | exact HB1.out)) (by unfold maxLen; omega) (by omega) (by first | exact HZ0.out | exact hq1) ?_; intro v2 w2 hown2 hgrow2 _; have HB2 := Lib.hid (show Below w.heap.size w w2 from by first | exact below_grown_none HB0.out hgrow2 HB0.out.size | exact below_grown_none HB0.out.drew hgrow2 HB0.out.size | exact below_grown_none HB1.out hgrow2 HB1.out.size); have hq2 : w.heap.size + 2 ≤ w2.heap.size := (by first | exact Nat.le_trans HZ0.out hgrow2.size | exact Nat.le_trans hq1 hgrow2.size); have X2 : Box w2 w.heap.size x := (by first | exact HX0.out.grown hgrow2 (by simp [Value.ownBlock]) | exact HX0.out.drew.grown hgrow2 (by simp [Value.ownBlock]) | exact HX1.out.grown hgrow2 (by simp [Value.ownBlock])); have HX2 := Lib.hid X2; have RR2 := Lib.hid (show Box w2 (w.heap.size + 1) zeroTV from by first | exact R0.out.grown hgrow2 (by simp [Value.ownBlock]) | exact R0.out.drew.grown hgrow2 (by simp [Value.ownBlock]) | exact RR1.out.grown hgrow2 (by simp [Value.ownBlock])); obtain ⟨k0, k1, k2, k3, k4, k5, kf⟩ := X2; obtain ⟨A2, c2, rfl, hc2, hm2, hrf2⟩ := row_form (xs := a) (n := x.al) (by simpa using hown2); have HF2 := Lib.hid (ints_own hown2 hrf2); clear hrf2; have HG2 := Lib.hid (show w2.grownBy w2 none from World.grownBy.refl _ _); have HI1 := Lib.hid (show True ∨ True from .inl trivial); (try have HI1 := Lib.hid (IntsS.grown HF1.out hgrow2)); clear hgrow2 hown2))
   all_goals
    have HN := Lib.hid (by first
      | exact OwnNums.make (c1 := c1) (c2 := c2) HB2.out hq2 HX2.out RR2.out HI1.out HF2.out
      | exact OwnNums.make (c1 := c1) (c2 := c2) HB1.out hq1 HX1.out RR1.out HF1.out HI2.out)
    go_wp2_with fail
    go_meet
    case rel => exact ⟨A1, c1, A2, c2, HN.out, hc1, hm1, hc2, hm2⟩
  case rest =>
    obtain ⟨A1, c1, A2, c2, hnn, hc1, hm1, hc2, hm2⟩ := hcut
    have HN := Lib.hid hnn
    clear hnn
    have hnil := HN.out.nil l
    obtain ⟨k0, k1, k2, k3, k4, k5, kf⟩ := HN.out.box
    simp only at k0 k1 k2 k3 k4 k5
    go_wp2_with fail
    clear k0 k1 k2 k3 k4 k5 kf
    generalize wc.setCell ⟨w.heap.size, 5, none⟩ (.slice none 0 0) = w0 at hnil ⊢
    obtain ⟨hP0, hz0', hres0, hi1, hi2⟩ := hnil
    have HP0 := Lib.hid hP0
    have HRES0 := Lib.hid hres0
    have HI1' := Lib.hid hi1
    have HI2' := Lib.hid hi2
    clear hP0 hres0 hi1 hi2
    go_loopw [4] (fun i wr => ∃ (K : Nat) (A : Option Addr) (c : Nat) (ys : List TV), K ≤ x.kl ∧ i = .int .i64 K ∧ PickG w w0 NoS w.heap.size ⟨x.kind, x.text, x.n, A1, x.sl, c1, A2, x.al, c2, none, 0, 0⟩ l K wr A c ys) (fun i _ => x.kl - (intOf i).toNat)
    case atStart => exact ⟨0, none, 0, [], Nat.zero_le _, rfl, HP0.out⟩
    case round =>
      obtain ⟨i, A, c, ys, hi, rfl, hrel⟩ := hrel
      have HPK := Lib.hid hrel
      clear hrel
      by_cases hlt : i < x.kl
      · have hil : i < l.length := by rw [← HKL.out]; exact hlt
        have hu : l[i]? = some l[i] := List.getElem?_eq_getElem hil
        obtain ⟨b, o, y, he, hb, hat, hru⟩ := HR.out.kid (t := T.mk k s n sh a l) (j := i) hu
        have HU := Lib.hid hu
        have hnn := T.nodes_mem (List.getElem_mem hil)
        have HC := Lib.hid (fun (W : World) (h : Below w.heap.size w W) => HIH.out l[i] (List.getElem_mem hil) (by simp only [T.nodes] at hn; omega) y B W (hru.below h hB) (Nat.le_trans hB h.size))
        simp only [TV.val, TV.cells] at HC
        have hbw : b < wr.heap.size := by have := HPK.out.below.size; omega
        have hat' := hat.keep hb (Keeps.of_below HPK.out.below hB)
        have S0 := Lib.hid (show Held_rg wr w.heap.size b (o + i * 6) A i c y from ⟨HPK.out.box.c5, hat'.c0, hat'.c1, hat'.c2, hat'.c3, hat'.c4, hat'.c5⟩)
        obtain ⟨q0, q1, q2, q3, q4, q5⟩ := hat'
        have p5 := HPK.out.box.c5
        simp only at p5
        have hzt := HPK.out.box.lt
        have hbt : b < w.heap.size := by omega
        have hk0 : (0 : Int) ≤ (i : Int) := by omega
        have hk1 : (i : Int) < (x.kl : Int) := by omega
        have nx1 : ¬ b = w.heap.size := by omega
        have nx2 : ¬ w.heap.size = b := by omega
        have hwr0 := HPK.out.size
        rw [he]
        clear hat hru hu he hnn
        obtain ⟨m0, hm0, hmz0, hmz1, hmz2⟩ := info_parts info_term0
        go_wp2_with fail
        go_region_law (first
            | (refine step_append_lies _ (by rfl) _ _ 22 (by rfl) w0.heap.size 29 m0 _ 6 104 Tryz.underlying22 hm0 hmz0 hmz1 hmz2 (by rfl) (by decide) _ i (rowCells ys) (by rfl) (HPK.out.row.kept (grown_of_below (HB4'.out.trans ((Below.refl w4.heap.size w4).alloc (Nat.le_refl _) _ |>.mono hz4')) none) (by cases h : (Value.slice A i c).ownBlock <;> simp)) ⟨w4.heap.size, 0, none⟩ 1 1 z.cells.toList (by rfl) (by rfl) (row_new w4 z.cells _) (cells_one z) (by omega) (by unfold maxLen; omega) (by omega) (by simp; omega) (w4.heap.size + 1) (by simp) ?_; intro g cap w5 hown hgrow hat hlt5; have S3 := ((S0.out.keep HB4'.out hzt hbw).keep ((Below.refl w4.heap.size w4).alloc (Nat.le_refl _) (.cells z.cells 29)) (by omega) (by omega)).grow hgrow (fun g e => Nat.lt_of_lt_of_le (by omega) (HPK.out.row.lt g e).1) hbt; unfold Held_rg at S3; have S3 := S3.2; have S4 := Lib.hid (S3); have S3 := Lib.hid S3; have T5 := Box.grown (((HPK.out.box.below HB4'.out hzt)).alloc _) hgrow (fun e => by have := (HPK.out.row.lt _ e.symm).1; omega); obtain ⟨p0, p1, p2, p3, p4, p5, pf⟩ := T5; simp only at p0 p1 p2 p3 p4 p5)
            | (go_simp; go_at_call 36; (with_reducible refine (HC.out _ (by first | exact HPK.out.below | exact HPK.out.below.drew)).mono ?_); rintro e w4 ⟨z, rfl, hr, hb4⟩; simp only [TV.val, TV.cells]; have hb4' : Below wr.heap.size wr w4 := (by first | exact hb4 | exact (Below.refl _ _).drew.trans hb4); have S1 := S0.out.keep hb4' hzt hbw; unfold Held_rg at S1; have p54 := S1.1; have S1 := S1.2; have S1 := Lib.hid S1; have HR4 := Lib.hid hr; have HB4' := Lib.hid hb4'; have hz4' := hb4'.size; have hz5' : w.heap.size < w4.heap.size := (by omega); clear hr hb4))
        all_goals
          have HNX := Lib.hid (HPK.out.next (fun b h => False.elim h) (Nat.le_refl _) (by omega) (by rfl) HU.out HB4'.out HR4.out hgrow hown hat)
          clear hgrow hown hat p0 p1 p2 p3 p4 p5 pf p54 hlt5
          go_wp2_with fail
          go_roundw
          case rel => exact ⟨i + 1, _, _, _, by omega, by go_num, HNX.out⟩
          case measure => simp [intOf]; omega
      · have hie : i = x.kl := by omega
        have HE := Lib.hid (own_ends HR.out hie HPK.out hz0' HI1'.out HI2'.out hc1 hm1 hc2 hm2)
        have HBW := Lib.hid HPK.out.below
        have hres : Box wr (w.heap.size + 1) zeroTV := by
          have hk : wr.heap[w.heap.size + 1]? = w0.heap[w.heap.size + 1]? := HPK.out.old _ (by omega) (by omega)
          have hc := HRES0.out
          exact ⟨(cell_of_heap hk).trans hc.c0, (cell_of_heap hk).trans hc.c1, (cell_of_heap hk).trans hc.c2, (cell_of_heap hk).trans hc.c3, (cell_of_heap hk).trans hc.c4, (cell_of_heap hk).trans hc.c5, fun o => (World.frozen?_of_block (a := ⟨w.heap.size + 1, o, none⟩) hk).trans (hc.f o)⟩
        obtain ⟨p0, p1, p2, p3, p4, p5, pf⟩ := HPK.out.box
        obtain ⟨r0, r1, r2, r3, r4, r5, rf⟩ := hres
        simp only at p0 p1 p2 p3 p4 p5
        simp only [zeroTV] at r0 r1 r2 r3 r4 r5
        clear hie
        go_wp2_with fail
        refine bodyPost_ret (v := TV.val { x with sa := A1, sc := c1, aa := A2, ac := c2, ka := A, kl := i, kc := c }) (by simp [results, Tryz.results36, TV.val, TV.cells, r0, r1, r2, r3, r4, r5, rf, go_sem]) rfl ?_
        with_reducible exact pass_ends (S := NoS) (rb := w.heap.size + 1) (k := 2) noS_lt HE.out HBW.out (by omega) (by omega) _ _ _ _ _ _
end Go.Proofs.YtnnhbpgpkpbinaaGreat

namespace Go.Proofs.YtnnhbpgpkpbinaaGreat
open Go.RowKit

def deskT (ps : Nat) (va vw : Value) : List Nat := ps :: (va.ownBlock.toList ++ vw.ownBlock.toList)
theorem memT {ps b : Nat} {va vw : Value} : b ∈ deskT ps va vw ↔ b = ps ∨ va.ownBlock = some b ∨ vw.ownBlock = some b := by simp [deskT]
theorem nodupT {ps : Nat} {va vw : Value} {F : List Nat} : (deskT ps va vw ++ F).Nodup ↔ (∀ g, va.ownBlock = some g → g ≠ ps ∧ g ∉ F ∧ vw.ownBlock ≠ some g) ∧ (∀ g, vw.ownBlock = some g → g ≠ ps ∧ g ∉ F) ∧ ps ∉ F ∧ F.Nodup := by
  unfold deskT
  cases va.ownBlock <;> cases vw.ownBlock <;> simp <;> grind
/-- the Shelf: terms as they were answered, and copies of them -/
structure ShelfG (w : World) (ps : Nat) (va vw : Value) (Y Z : List TV) (ts us : List T) (N : Nat) (F : List Nat) (S : Nat → Prop) : Prop where
  c0 : w.cell? ⟨ps, 0, none⟩ = some va
  c1 : w.cell? ⟨ps, 1, none⟩ = some vw
  c2 : w.cell? ⟨ps, 2, none⟩ = some (.int .i64 N)
  f : ∀ o, w.frozen? ⟨ps, o, none⟩ = false
  r0 : w.ownsRow 0 29 6 va Y.length (rowCells Y)
  r1 : w.ownsRow 0 29 6 vw Z.length (rowCells Z)
  own : OwnK w ts Y F
  reps : ∀ (j : Nat) (u : T), us[j]? = some u → ∃ z, Z[j]? = some z ∧ RepS w S u z
  len : Z.length = us.length
  nodup : (deskT ps va vw ++ F).Nodup
  flt : ∀ b ∈ F, b < w.heap.size
  sap : ∀ b, S b → b < w.heap.size ∧ b ∉ deskT ps va vw ++ F
  fits : ∀ u ∈ ts, u.fits
section
variable {w w' : World} {ps : Nat} {va vw : Value} {Y Z : List TV} {ts us : List T} {N : Nat} {F : List Nat} {S : Nat → Prop}
theorem ShelfG.lt (h : ShelfG w ps va vw Y Z ts us N F S) : ∀ b ∈ deskT ps va vw, b < w.heap.size := by
  intro b hb
  rw [memT] at hb
  rcases hb with rfl | hb | hb
  · exact World.block_lt_of_cell? w _ h.c0
  · exact (h.r0.lt b hb).2
  · exact (h.r1.lt b hb).2
theorem ShelfG.kept (h : ShelfG w ps va vw Y Z ts us N F S) (hk : ∀ b, b ∈ deskT ps va vw ++ F ∨ S b → w'.heap[b]? = w.heap[b]?) (hz : w.heap.size ≤ w'.heap.size) : ShelfG w' ps va vw Y Z ts us N F S := by
  have hp := hk ps (.inl (by simp [deskT]))
  refine ⟨(cell_of_heap hp).trans h.c0, (cell_of_heap hp).trans h.c1, (cell_of_heap hp).trans h.c2, fun o => (World.frozen?_of_block (a := ⟨ps, o, none⟩) hp).trans (h.f o),
    ownsRow_kept h.r0 (fun g e => hk g (.inl (List.mem_append_left _ (memT.2 (.inr (.inl e)))))), ownsRow_kept h.r1 (fun g e => hk g (.inl (List.mem_append_left _ (memT.2 (.inr (.inr e)))))),
    h.own.kept (fun b hb => hk b (.inl (List.mem_append_right _ hb))), fun j u hj => ?_, h.len, h.nodup, fun b hb => Nat.lt_of_lt_of_le (h.flt b hb) hz, fun b hb => ⟨Nat.lt_of_lt_of_le (h.sap b hb).1 hz, (h.sap b hb).2⟩, h.fits⟩
  obtain ⟨z, h1, h2⟩ := h.reps j u hj
  exact ⟨z, h1, RepS.keep (fun b o hb => cell_of_heap (hk b (.inr hb))) (fun _ h => h) _ _ h2⟩
theorem ShelfG.all_lt (h : ShelfG w ps va vw Y Z ts us N F S) : ∀ b, b ∈ deskT ps va vw ++ F ∨ S b → b < w.heap.size := by
  intro b hb
  rcases hb with hb | hb
  · rcases List.mem_append.1 hb with hb | hb
    · exact h.lt b hb
    · exact h.flt b hb
  · exact (h.sap b hb).1
theorem ShelfG.below (h : ShelfG w ps va vw Y Z ts us N F S) (hb : Below w.heap.size w w') : ShelfG w' ps va vw Y Z ts us N F S :=
  h.kept (fun b hb' => hb.block b (h.all_lt b hb')) hb.size
theorem ShelfG.outside {G : List Nat} (h : ShelfG w ps va vw Y Z ts us N F S) (hb : Outside G w w') (hG : ∀ b ∈ G, ¬ (b ∈ deskT ps va vw ++ F ∨ S b)) : ShelfG w' ps va vw Y Z ts us N F S :=
  h.kept (fun b hb' => hb.block b (h.all_lt b hb') (fun hm => hG b hm hb')) hb.size
/-- what a step within Keep leaves -/
structure SPush (w w' : World) (ps : Nat) (va vw va' vw' : Value) (Y Z : List TV) (ts us : List T) (N : Nat) (F F' : List Nat) (S S' : Nat → Prop) (Fy : List Nat) : Prop where
  shelf : ShelfG w' ps va' vw' Y Z ts us N F' S'
  out : Outside (deskT ps va vw) w w'
  desk : ∀ b ∈ deskT ps va' vw', b ∈ deskT ps va vw ∨ w.heap.size ≤ b
  new : ∀ b, b ∈ deskT ps va' vw' ++ F' ∨ S' b → (b ∈ deskT ps va vw ++ F ∨ S b) ∨ b ∈ Fy ∨ w.heap.size ≤ b
theorem SPush.count (h : ShelfG w ps va vw Y Z ts us N F S) (N' : Nat) (Fy : List Nat) : SPush w (w.setCell ⟨ps, 2, none⟩ (.int .i64 N')) ps va vw va vw Y Z ts us N' F F S S Fy := by
  have hn := nodupT.1 h.nodup
  have hk : ∀ b, b ≠ ps → (w.setCell ⟨ps, 2, none⟩ (.int .i64 N')).heap[b]? = w.heap[b]? := fun b hb => Below.heap_setCell _ _ _ _ hb
  have hs : (w.setCell ⟨ps, 2, none⟩ (.int .i64 N')).heap.size = w.heap.size := by simp [World.setCell]
  refine ⟨⟨(cell_set_ne (by omega)).trans h.c0, (cell_set_ne (by omega)).trans h.c1, ?_, ?_, ownsRow_kept h.r0 (fun g e => hk g (hn.1 g e).1), ownsRow_kept h.r1 (fun g e => hk g (hn.2.1 g e).1),
    h.own.kept (fun b hb => hk b (fun e => hn.2.2.1 (e ▸ hb))), fun j u hj => ?_, h.len, h.nodup, fun b hb => by rw [hs]; exact h.flt b hb, fun b hb => by rw [hs]; exact h.sap b hb, h.fits⟩, (Outside.refl _ _).set (.inl (by simp [deskT])) _, fun b hb => .inl hb, fun b hb => .inl hb⟩
  · have := h.c2
    simp [this, go_sem]
  · intro o; have := h.f o; simp [this, go_sem]
  · obtain ⟨z, h1, h2⟩ := h.reps j u hj
    exact ⟨z, h1, RepS.keep (fun b o hb => cell_of_heap (hk b (fun e => (h.sap b hb).2 (by simp [deskT, e])))) (fun _ h => h) _ _ h2⟩
/-- the row of answers one longer -/
theorem SPush.all {wb w5 : World} {m g cap : Nat} {u : T} {y : TV} {Fy : List Nat} (h : ShelfG w ps va vw Y Z ts us N F S) (hl : Y.length = m) (hb : Below w.heap.size w wb)
    (hown : w5.ownsRow 0 29 6 (.slice (some ⟨g, 0, none⟩) (m + 1) cap) (m + 1) (rowCells Y ++ y.cells.toList)) (hg : wb.grownBy w5 va.ownBlock) (hat : va.ownBlock = some g ∨ g = wb.heap.size)
    (hy : Own w u y Fy) (hN : Fy.Nodup) (hF : ∀ b ∈ Fy, b < w.heap.size ∧ ¬ (b ∈ deskT ps va vw ++ F ∨ S b)) (hfit : u.fits) :
    SPush w (w5.setCell ⟨ps, 0, none⟩ (.slice (some ⟨g, 0, none⟩) (m + 1) cap)) ps va vw (.slice (some ⟨g, 0, none⟩) (m + 1) cap) vw (Y ++ [y]) Z (ts ++ [u]) us N F (F ++ Fy) S S Fy := by
  obtain ⟨n1, n2, n3, n4⟩ := nodupT.1 h.nodup
  have hbz := hb.size
  have hgz := hg.size
  have hp : ps < w.heap.size := h.lt ps (by simp [deskT])
  have hk : ∀ b, b < w.heap.size → va.ownBlock ≠ some b → w5.heap[b]? = w.heap[b]? := fun b h1 h2 => (hg.block b (Nat.lt_of_lt_of_le h1 hb.size) (fun e => h2 e.symm)).trans (hb.block b h1)
  have hvp : va.ownBlock ≠ some ps := fun e => (n1 ps e).1 rfl
  have hc : ∀ o, w5.cell? ⟨ps, o, none⟩ = w.cell? ⟨ps, o, none⟩ := fun o => cell_of_heap (hk ps hp hvp)
  have hf : ∀ o, w5.frozen? ⟨ps, o, none⟩ = false := fun o => (World.frozen?_of_block (a := ⟨ps, o, none⟩) (hk ps hp hvp)).trans (h.f o)
  have hgp : g ≠ ps := by
    rcases hat with hb | e
    · exact (n1 g hb).1
    · omega
  have hgF : g ∉ F := by
    rcases hat with hb | e
    · exact (n1 g hb).2.1
    · exact fun hm => by have := h.flt g hm; omega
  have hgY : g ∉ Fy := by
    rcases hat with hb | e
    · exact fun hm => (hF g hm).2 (.inl (List.mem_append_left _ (memT.2 (.inr (.inl hb)))))
    · exact fun hm => by have := (hF g hm).1; omega
  have hgw : vw.ownBlock ≠ some g := by
    rcases hat with hb | e
    · exact (n1 g hb).2.2
    · exact fun hm => by have := (h.r1.lt g hm).2; omega
  have hgS : ¬ S g := by
    rcases hat with hb | e
    · exact fun hs => (h.sap g hs).2 (List.mem_append_left _ (memT.2 (.inr (.inl hb))))
    · exact fun hs => by have := (h.sap g hs).1; omega
  have hset : ∀ b, b ≠ ps → (w5.setCell ⟨ps, 0, none⟩ (.slice (some ⟨g, 0, none⟩) (m + 1) cap)).heap[b]? = w5.heap[b]? := fun b hb => Below.heap_setCell _ _ _ _ hb
  have hs : (w5.setCell ⟨ps, 0, none⟩ (.slice (some ⟨g, 0, none⟩) (m + 1) cap)).heap.size = w5.heap.size := by simp [World.setCell]
  have hkk : ∀ b, b < w.heap.size → va.ownBlock ≠ some b → b ≠ ps → (w5.setCell ⟨ps, 0, none⟩ (.slice (some ⟨g, 0, none⟩) (m + 1) cap)).heap[b]? = w.heap[b]? := fun b h1 h2 h3 => (hset b h3).trans (hk b h1 h2)
  have hvF : ∀ b ∈ F, va.ownBlock ≠ some b := fun b hb e => (n1 b e).2.1 hb
  have hvY : ∀ b ∈ Fy, va.ownBlock ≠ some b := fun b hb e => (hF b hb).2 (.inl (List.mem_append_left _ (memT.2 (.inr (.inl e)))))
  have hpY : ∀ b ∈ Fy, b ≠ ps := fun b hb e => (hF b hb).2 (.inl (List.mem_append_left _ (memT.2 (.inl e))))
  have hdesk : ∀ b ∈ deskT ps (.slice (some ⟨g, 0, none⟩) (m + 1) cap) vw, b ∈ deskT ps va vw ∨ w.heap.size ≤ b := by
    intro b hb
    rcases memT.1 hb with e | e | e
    · exact .inl (memT.2 (.inl e))
    · have e : some g = some b := e
      cases e
      rcases hat with h' | h'
      · exact .inl (memT.2 (.inr (.inl h')))
      · exact .inr (by omega)
    · exact .inl (memT.2 (.inr (.inr e)))
  refine ⟨⟨?_, (cell_set_ne (by omega)).trans ((hc 1).trans h.c1), (cell_set_ne (by omega)).trans ((hc 2).trans h.c2), ?_, ?_, ?_, ?_, fun j u hj => ?_, h.len, ?_, ?_, ?_, ?_⟩, ?_, hdesk, ?_⟩
  · have := (hc 0).trans h.c0
    simp [this, go_sem]
  · intro o; have := hf o; simp [this, go_sem]
  · rw [List.length_append, hl, rowCells_snoc]
    exact ownsRow_kept hown (fun b e => by cases e; exact hset _ hgp)
  · exact ownsRow_kept h.r1 (fun b e => hkk b (h.r1.lt b e).2 (fun e' => (n1 b e').2.2 e) (n2 b e).1)
  · exact (h.own.kept (fun b hb => hkk b (h.flt b hb) (hvF b hb) (fun e => n3 (e ▸ hb)))).snoc (Own.kept _ _ _ hy (fun b hb => hkk b (hF b hb).1 (hvY b hb) (hpY b hb)))
  · obtain ⟨z, h1, h2⟩ := h.reps j u hj
    refine ⟨z, h1, RepS.keep (fun b o hb => cell_of_heap (hkk b (h.sap b hb).1 (fun e => (h.sap b hb).2 ?_) (fun e => (h.sap b hb).2 ?_))) (fun _ h => h) _ _ h2⟩
    · exact List.mem_append_left _ (memT.2 (.inr (.inl e)))
    · exact List.mem_append_left _ (memT.2 (.inl e))
  · refine nodupT.2 ⟨fun b e => ?_, fun b e => ⟨(n2 b e).1, fun hm => ?_⟩, fun hm => ?_, ?_⟩
    · have e : some g = some b := e
      cases e
      exact ⟨hgp, fun hm => by rcases List.mem_append.1 hm with h | h; exact hgF h; exact hgY h, hgw⟩
    · rcases List.mem_append.1 hm with h' | h'
      · exact (n2 b e).2 h'
      · exact (hF b h').2 (.inl (List.mem_append_left _ (memT.2 (.inr (.inr e)))))
    · rcases List.mem_append.1 hm with h' | h'
      · exact n3 h'
      · exact hpY _ h' rfl
    · exact List.nodup_append.2 ⟨n4, hN, fun a ha b hb e => by subst e; exact (hF a hb).2 (.inl (List.mem_append_right _ ha))⟩
  · intro b hb
    rw [hs]
    rcases List.mem_append.1 hb with hb | hb
    · have := h.flt b hb; omega
    · have := (hF b hb).1; omega
  · intro b hb
    have h1 := (h.sap b hb).1
    refine ⟨by rw [hs]; omega, fun hm => ?_⟩
    rcases List.mem_append.1 hm with hm | hm
    · rcases memT.1 hm with e | e | e
      · exact (h.sap b hb).2 (List.mem_append_left _ (memT.2 (.inl e)))
      · have e : some g = some b := e
        cases e
        exact hgS hb
      · exact (h.sap b hb).2 (List.mem_append_left _ (memT.2 (.inr (.inr e))))
    · rcases List.mem_append.1 hm with hm | hm
      · exact (h.sap b hb).2 (List.mem_append_right _ hm)
      · exact (hF b hm).2 (.inr hb)
  · intro v hv
    rcases List.mem_append.1 hv with hv | hv
    · exact h.fits v hv
    · simp at hv; subst hv; exact hfit
  · refine ⟨hg.os.trans hb.os, hg.tape.trans hb.tape, hg.output.trans hb.output, by rw [hs]; omega, fun b hb hm => ?_⟩
    rw [memT] at hm
    exact hkk b hb (fun e => hm (.inr (.inl e))) (fun e => hm (.inl e))
  · intro b hb
    rcases hb with hb | hb
    · rcases List.mem_append.1 hb with hb | hb
      · rcases memT.1 hb with e | e | e
        · exact .inl (.inl (List.mem_append_left _ (memT.2 (.inl e))))
        · have e : some g = some b := e
          cases e
          rcases hat with h' | h'
          · exact .inl (.inl (List.mem_append_left _ (memT.2 (.inr (.inl h')))))
          · exact .inr (.inr (by omega))
        · exact .inl (.inl (List.mem_append_left _ (memT.2 (.inr (.inr e)))))
      · rcases List.mem_append.1 hb with hb | hb
        · exact .inl (.inl (List.mem_append_right _ hb))
        · exact .inr (.inl hb)
    · exact .inl (.inr hb)
/-- the row of copies one longer -/
theorem SPush.were {wb w5 : World} {m g cap : Nat} {u : T} {z : TV} {S' : Nat → Prop} {Fy : List Nat} (h : ShelfG w ps va vw Y Z ts us N F S) (hl : Z.length = m) (hb : Below w.heap.size w wb)
    (hown : w5.ownsRow 0 29 6 (.slice (some ⟨g, 0, none⟩) (m + 1) cap) (m + 1) (rowCells Z ++ z.cells.toList)) (hg : wb.grownBy w5 vw.ownBlock) (hat : vw.ownBlock = some g ∨ g = wb.heap.size)
    (hz : RepS wb S' u z) (hS : ∀ b, S' b → w.heap.size ≤ b ∧ b < wb.heap.size) :
    SPush w (w5.setCell ⟨ps, 1, none⟩ (.slice (some ⟨g, 0, none⟩) (m + 1) cap)) ps va vw va (.slice (some ⟨g, 0, none⟩) (m + 1) cap) Y (Z ++ [z]) ts (us ++ [u]) N F F S (fun b => S b ∨ S' b) Fy := by
  obtain ⟨n1, n2, n3, n4⟩ := nodupT.1 h.nodup
  have hbz := hb.size
  have hgz := hg.size
  have hp : ps < w.heap.size := h.lt ps (by simp [deskT])
  have hk : ∀ b, b < w.heap.size → vw.ownBlock ≠ some b → w5.heap[b]? = w.heap[b]? := fun b h1 h2 => (hg.block b (Nat.lt_of_lt_of_le h1 hb.size) (fun e => h2 e.symm)).trans (hb.block b h1)
  have hvp : vw.ownBlock ≠ some ps := fun e => (n2 ps e).1 rfl
  have hc : ∀ o, w5.cell? ⟨ps, o, none⟩ = w.cell? ⟨ps, o, none⟩ := fun o => cell_of_heap (hk ps hp hvp)
  have hf : ∀ o, w5.frozen? ⟨ps, o, none⟩ = false := fun o => (World.frozen?_of_block (a := ⟨ps, o, none⟩) (hk ps hp hvp)).trans (h.f o)
  have hgp : g ≠ ps := by
    rcases hat with hb | e
    · exact (n2 g hb).1
    · omega
  have hgF : g ∉ F := by
    rcases hat with hb | e
    · exact (n2 g hb).2
    · exact fun hm => by have := h.flt g hm; omega
  have hga : va.ownBlock ≠ some g := by
    rcases hat with hb | e
    · exact fun e => (n1 g e).2.2 hb
    · exact fun hm => by have := (h.r0.lt g hm).2; omega
  have hgS : ¬ S g := by
    rcases hat with hb | e
    · exact fun hs => (h.sap g hs).2 (List.mem_append_left _ (memT.2 (.inr (.inr hb))))
    · exact fun hs => by have := (h.sap g hs).1; omega
  have hgS' : ¬ S' g := by
    rcases hat with hb | e
    · exact fun hs => by have := (hS g hs).1; have := (h.r1.lt g hb).2; omega
    · exact fun hs => by have := (hS g hs).2; omega
  have hset : ∀ b, b ≠ ps → (w5.setCell ⟨ps, 1, none⟩ (.slice (some ⟨g, 0, none⟩) (m + 1) cap)).heap[b]? = w5.heap[b]? := fun b hb => Below.heap_setCell _ _ _ _ hb
  have hs : (w5.setCell ⟨ps, 1, none⟩ (.slice (some ⟨g, 0, none⟩) (m + 1) cap)).heap.size = w5.heap.size := by simp [World.setCell]
  have hkk : ∀ b, b < w.heap.size → vw.ownBlock ≠ some b → b ≠ ps → (w5.setCell ⟨ps, 1, none⟩ (.slice (some ⟨g, 0, none⟩) (m + 1) cap)).heap[b]? = w.heap[b]? := fun b h1 h2 h3 => (hset b h3).trans (hk b h1 h2)
  have hdesk : ∀ b ∈ deskT ps va (.slice (some ⟨g, 0, none⟩) (m + 1) cap), b ∈ deskT ps va vw ∨ w.heap.size ≤ b := by
    intro b hb
    rcases memT.1 hb with e | e | e
    · exact .inl (memT.2 (.inl e))
    · exact .inl (memT.2 (.inr (.inl e)))
    · have e : some g = some b := e
      cases e
      rcases hat with h' | h'
      · exact .inl (memT.2 (.inr (.inr h')))
      · exact .inr (by omega)
  refine ⟨⟨(cell_set_ne (by omega)).trans ((hc 0).trans h.c0), ?_, (cell_set_ne (by omega)).trans ((hc 2).trans h.c2), ?_, ?_, ?_, ?_, fun j v hj => ?_, by simp [h.len], ?_, ?_, ?_, h.fits⟩, ?_, hdesk, ?_⟩
  · have := (hc 1).trans h.c1
    simp [this, go_sem]
  · intro o; have := hf o; simp [this, go_sem]
  · exact ownsRow_kept h.r0 (fun b e => hkk b (h.r0.lt b e).2 (fun e' => (n1 b e).2.2 e') (n1 b e).1)
  · rw [List.length_append, hl, rowCells_snoc]
    exact ownsRow_kept hown (fun b e => by cases e; exact hset _ hgp)
  · exact h.own.kept (fun b hb => hkk b (h.flt b hb) (fun e => (n2 b e).2 hb) (fun e => n3 (e ▸ hb)))
  · by_cases hj' : j < us.length
    · rw [List.getElem?_append_left hj'] at hj
      obtain ⟨z', h1, h2⟩ := h.reps j v hj
      refine ⟨z', by rw [List.getElem?_append_left (by rw [h.len]; exact hj')]; exact h1, RepS.keep (fun b o hb => cell_of_heap (hkk b (h.sap b hb).1 (fun e => (h.sap b hb).2 ?_) (fun e => (h.sap b hb).2 ?_))) (fun b h => .inl h) _ _ h2⟩
      · exact List.mem_append_left _ (memT.2 (.inr (.inr e)))
      · exact List.mem_append_left _ (memT.2 (.inl e))
    · have hje : j = us.length := by
        have := (List.getElem?_eq_some_iff.1 hj).1
        simp at this; omega
      subst hje
      rw [List.getElem?_append_right (Nat.le_refl _)] at hj
      simp at hj
      subst hj
      refine ⟨z, by rw [List.getElem?_append_right (by rw [h.len]; exact Nat.le_refl _), h.len]; simp, RepS.keep (fun b o hb => cell_of_heap ((hset b ?_).trans (hg.block b (hS b hb).2 ?_))) (fun b h => .inr h) _ _ hz⟩
      · have := (hS b hb).1; omega
      · intro e; have := (h.r1.lt b e.symm).2; have := (hS b hb).1; omega
  · refine nodupT.2 ⟨fun b e => ⟨(n1 b e).1, (n1 b e).2.1, fun e' => ?_⟩, fun b e => ?_, n3, n4⟩
    · have e' : some g = some b := e'
      cases e'
      exact hga e
    · have e : some g = some b := e
      cases e
      exact ⟨hgp, hgF⟩
  · intro b hb
    rw [hs]
    have := h.flt b hb; omega
  · intro b hb
    rcases hb with hb | hb
    · have h1 := (h.sap b hb).1
      refine ⟨by rw [hs]; omega, fun hm => ?_⟩
      rcases List.mem_append.1 hm with hm | hm
      · rcases memT.1 hm with e | e | e
        · exact (h.sap b hb).2 (List.mem_append_left _ (memT.2 (.inl e)))
        · exact (h.sap b hb).2 (List.mem_append_left _ (memT.2 (.inr (.inl e))))
        · have e : some g = some b := e
          cases e
          exact hgS hb
      · exact (h.sap b hb).2 (List.mem_append_right _ hm)
    · have h1 := hS b hb
      refine ⟨by rw [hs]; omega, fun hm => ?_⟩
      rcases List.mem_append.1 hm with hm | hm
      · rcases memT.1 hm with e | e | e
        · omega
        · have := (h.r0.lt b e).2; omega
        · have e : some g = some b := e
          cases e
          exact hgS' hb
      · have := h.flt b hm; omega
  · refine ⟨hg.os.trans hb.os, hg.tape.trans hb.tape, hg.output.trans hb.output, by rw [hs]; omega, fun b hb hm => ?_⟩
    rw [memT] at hm
    exact hkk b hb (fun e => hm (.inr (.inr e))) (fun e => hm (.inl e))
  · intro b hb
    rcases hb with hb | hb | hb
    · rcases List.mem_append.1 hb with hb | hb
      · rcases memT.1 hb with e | e | e
        · exact .inl (.inl (List.mem_append_left _ (memT.2 (.inl e))))
        · exact .inl (.inl (List.mem_append_left _ (memT.2 (.inr (.inl e)))))
        · have e : some g = some b := e
          cases e
          rcases hat with h' | h'
          · exact .inl (.inl (List.mem_append_left _ (memT.2 (.inr (.inr h')))))
          · exact .inr (.inr (by omega))
      · exact .inl (.inl (List.mem_append_right _ hb))
    · exact .inl (.inr hb)
    · exact .inr (.inr (hS b hb).1)
end
theorem SPush.trans {a b c : World} {ps : Nat} {va vw va' vw' va2 vw2 : Value} {Y Z Y2 Z2 : List TV} {ts us ts2 us2 : List T} {N N2 : Nat} {F F' F2 : List Nat} {S S' S2 : Nat → Prop} {Fy : List Nat}
    (h : SPush a b ps va vw va' vw' Y Z ts us N F F' S S' Fy) (k : SPush b c ps va' vw' va2 vw2 Y2 Z2 ts2 us2 N2 F' F2 S' S2 Fy) : SPush a c ps va vw va2 vw2 Y2 Z2 ts2 us2 N2 F F2 S S2 Fy := by
  refine ⟨k.shelf, ⟨k.out.os.trans h.out.os, k.out.tape.trans h.out.tape, k.out.output.trans h.out.output, Nat.le_trans h.out.size k.out.size, fun g hg hm => ?_⟩, fun g hg => ?_, fun g hg => ?_⟩
  · refine (k.out.block g (Nat.lt_of_lt_of_le hg h.out.size) (fun h1 => ?_)).trans (h.out.block g hg hm)
    rcases h.desk g h1 with h2 | h2
    · exact hm h2
    · omega
  · rcases k.desk g hg with h1 | h1
    · exact h.desk g h1
    · exact .inr (Nat.le_trans h.out.size h1)
  · rcases k.new g hg with h1 | h1 | h1
    · exact h.new g h1
    · exact .inr (.inl h1)
    · exact .inr (.inr (Nat.le_trans h.out.size h1))
theorem SPush.ahead {a b c : World} {ps : Nat} {va vw va' vw' : Value} {Y Z : List TV} {ts us : List T} {N : Nat} {F F' : List Nat} {S S' : Nat → Prop} {Fy : List Nat}
    (hb : Below a.heap.size a b) (k : SPush b c ps va vw va' vw' Y Z ts us N F F' S S' Fy) : SPush a c ps va vw va' vw' Y Z ts us N F F' S S' Fy :=
  ⟨k.shelf, (Outside.of_below hb).trans k.out, fun g hg => (k.desk g hg).imp id (fun h => Nat.le_trans hb.size h), fun g hg => (k.new g hg).imp id (fun h => h.imp id (fun h => Nat.le_trans hb.size h))⟩
/-- between two calls -/
def ShelfS (w : World) (ps : Nat) (H : Nat → Prop) : Prop :=
  ∃ va vw Y Z ts N F S, ShelfG w ps va vw Y Z ts ts N F S ∧ ts.length ≤ N ∧ N ≤ 40000 ∧ (∀ b, b ∈ deskT ps va vw ++ F ∨ S b → H b) ∧ ∀ b, H b → b < w.heap.size
theorem ShelfS.kept {w w' : World} {ps : Nat} {H : Nat → Prop} (h : ShelfS w ps H) (hk : ∀ b, H b → w'.heap[b]? = w.heap[b]?) (hz : w.heap.size ≤ w'.heap.size) : ShelfS w' ps H := by
  obtain ⟨va, vw, Y, Z, ts, N, F, S, h1, h2, h3, h4, h5⟩ := h
  exact ⟨va, vw, Y, Z, ts, N, F, S, h1.kept (fun b hb => hk b (h4 b hb)) hz, h2, h3, h4, fun b hb => Nat.lt_of_lt_of_le (h5 b hb) hz⟩
theorem ShelfS.lt {w : World} {ps : Nat} {H : Nat → Prop} (h : ShelfS w ps H) : ∀ b, H b → b < w.heap.size := by
  obtain ⟨va, vw, Y, Z, ts, N, F, S, h1, h2, h3, h4, h5⟩ := h
  exact h5
theorem ShelfS.below {w w' : World} {ps : Nat} {H : Nat → Prop} (h : ShelfS w ps H) (hb : Below w.heap.size w w') : ShelfS w' ps H :=
  h.kept (fun b hb' => hb.block b (h.lt b hb')) hb.size
theorem ShelfS.outside {w w' : World} {ps : Nat} {H : Nat → Prop} {G : List Nat} (h : ShelfS w ps H) (hb : Outside G w w') (hG : ∀ b ∈ G, ¬ H b) : ShelfS w' ps H :=
  h.kept (fun b hb' => hb.block b (h.lt b hb') (fun hm => hG b hm hb')) hb.size
/-- what Keep leaves -/
def KeepPost (w : World) (ps : Nat) (H : Nat → Prop) (Fy : List Nat) (e : Ending) (w' : World) : Prop :=
  e = .returned (.tuple #[]) ∧ ∃ H' D, ShelfS w' ps H' ∧ (∀ b, H' b → H b ∨ b ∈ Fy ∨ w.heap.size ≤ b) ∧ (∀ b ∈ D, H b) ∧ Outside D w w'
end Go.Proofs.YtnnhbpgpkpbinaaGreat

namespace Go.Proofs.YtnnhbpgpkpbinaaGreat
open Go.RowKit

theorem set_six (l : List Value) (z : Array Value) (y : TV) (m : Nat) (hm : l.length = m) (hz : z.size = 6) :
    ((((((l ++ z.toList).set m (.int .i64 y.kind)).set (m + 1) (.string y.text)).set (m + 2) (.int .i64 y.n)).set (m + 3) (.slice y.sa y.sl y.sc)).set (m + 4) (.slice y.aa y.al y.ac)).set (m + 5) (.slice y.ka y.kl y.kc) = l ++ y.cells.toList := by
  subst hm
  obtain ⟨zl⟩ := z
  match zl, hz with
  | [a, b, c, d, e, f], _ => simp [List.set_append, TV.cells]
theorem heap_set6' (w : World) (b n c : Nat) (hc : c ≠ b) (v0 v1 v2 v3 v4 v5 : Value) : ((((((w.setCell ⟨b, n, none⟩ v0).setCell ⟨b, n + 1, none⟩ v1).setCell ⟨b, n + 2, none⟩ v2).setCell ⟨b, n + 3, none⟩ v3).setCell ⟨b, n + 4, none⟩ v4).setCell ⟨b, n + 5, none⟩ v5).heap[c]? = w.heap[c]? := by
  iterate 6 (refine (Below.heap_setCell _ _ _ _ hc).trans ?_)
  rfl
theorem rows_put {w5 : World} {g m cap : Nat} {Y : List TV} {y z : TV} (hl : Y.length = m) (h : w5.ownsRow 0 29 6 (.slice (some ⟨g, 0, none⟩) (m + 1) cap) (m + 1) (rowCells Y ++ z.cells.toList)) :
    ((((((w5.setCell ⟨g, m * 6, none⟩ (.int .i64 y.kind)).setCell ⟨g, m * 6 + 1, none⟩ (.string y.text)).setCell ⟨g, m * 6 + 2, none⟩ (.int .i64 y.n)).setCell ⟨g, m * 6 + 3, none⟩ (.slice y.sa y.sl y.sc)).setCell ⟨g, m * 6 + 4, none⟩ (.slice y.aa y.al y.ac)).setCell ⟨g, m * 6 + 5, none⟩ (.slice y.ka y.kl y.kc)).ownsRow 0 29 6 (.slice (some ⟨g, 0, none⟩) (m + 1) cap) (m + 1) (rowCells Y ++ y.cells.toList) := by
  have e := set_six (rowCells Y) z.cells y (m * 6) (by rw [rowCells_len, hl]) (by simp [TV.cells])
  have h1 := (h.stored (m * 6) (.int .i64 y.kind)).1
  have h2 := (h1.stored (m * 6 + 1) (.string y.text)).1
  have h3 := (h2.stored (m * 6 + 2) (.int .i64 y.n)).1
  have h4 := (h3.stored (m * 6 + 3) (.slice y.sa y.sl y.sc)).1
  have h5 := (h4.stored (m * 6 + 4) (.slice y.aa y.al y.ac)).1
  have h6 := (h5.stored (m * 6 + 5) (.slice y.ka y.kl y.kc)).1
  rw [e] at h6
  with_reducible exact h6
theorem grown_set1 {wb w5 : World} {v : Value} {g : Nat} (h : wb.grownBy w5 v.ownBlock) (hat : v.ownBlock = some g ∨ g = wb.heap.size) (o : Nat) (u : Value) : wb.grownBy (w5.setCell ⟨g, o, none⟩ u) v.ownBlock := by
  refine ⟨h.os, h.tape, h.output, by simpa [World.setCell] using h.size, fun k hk hne => ?_⟩
  have hkg : k ≠ g := by
    rcases hat with e | e
    · exact fun h' => hne (by rw [e, h'])
    · omega
  exact (Below.heap_setCell _ _ _ _ hkg).trans (h.block k hk hne)
theorem grown_put {wb w5 : World} {v : Value} {g m : Nat} (h : wb.grownBy w5 v.ownBlock) (hat : v.ownBlock = some g ∨ g = wb.heap.size) (v0 v1 v2 v3 v4 v5 : Value) :
    wb.grownBy ((((((w5.setCell ⟨g, m * 6, none⟩ v0).setCell ⟨g, m * 6 + 1, none⟩ v1).setCell ⟨g, m * 6 + 2, none⟩ v2).setCell ⟨g, m * 6 + 3, none⟩ v3).setCell ⟨g, m * 6 + 4, none⟩ v4).setCell ⟨g, m * 6 + 5, none⟩ v5) v.ownBlock :=
  grown_set1 (grown_set1 (grown_set1 (grown_set1 (grown_set1 (grown_set1 h hat _ _) hat _ _) hat _ _) hat _ _) hat _ _) hat _ _
end Go.Proofs.YtnnhbpgpkpbinaaGreat

namespace Go.Proofs.YtnnhbpgpkpbinaaGreat
open Go.RowKit

theorem SPush.mono {a b : World} {ps : Nat} {va vw va' vw' : Value} {Y Z : List TV} {ts us : List T} {N : Nat} {F F' : List Nat} {S S' : Nat → Prop} {Fy Fz : List Nat} (h : SPush a b ps va vw va' vw' Y Z ts us N F F' S S' Fy) (hs : ∀ b ∈ Fy, b ∈ Fz) : SPush a b ps va vw va' vw' Y Z ts us N F F' S S' Fz :=
  ⟨h.shelf, h.out, h.desk, fun g hg => (h.new g hg).imp id (fun h => h.imp (hs g) id)⟩
theorem SPush.refl {w : World} {ps : Nat} {va vw : Value} {Y Z : List TV} {ts us : List T} {N : Nat} {F : List Nat} {S : Nat → Prop} (h : ShelfG w ps va vw Y Z ts us N F S) (Fy : List Nat) : SPush w w ps va vw va vw Y Z ts us N F F S S Fy :=
  ⟨h, Outside.refl _ _, fun _ h => .inl h, fun _ h => .inl h⟩
theorem modify_comm {α : Type} (h : Array α) (a b : Nat) (f g : α → α) (hab : a ≠ b) : (h.modify a f).modify b g = (h.modify b g).modify a f := by
  apply Array.ext_getElem?
  intro i
  simp only [Array.getElem?_modify]
  by_cases h1 : a = i
  · by_cases h2 : b = i
    · exact absurd (h1.trans h2.symm) hab
    · simp [h1, h2]
  · by_cases h2 : b = i
    · simp [h1, h2]
    · simp [h1, h2]
theorem setCell_comm (w : World) (a b : Addr) (u v : Value) (hab : a.block ≠ b.block) : (w.setCell a u).setCell b v = (w.setCell b v).setCell a u := by
  unfold World.setCell
  simp only
  rw [modify_comm _ _ _ _ _ hab]
theorem set6_comm (w : World) {ps g : Nat} (h : ps ≠ g) (o m : Nat) (s v0 v1 v2 v3 v4 v5 : Value) :
    ((((((((w.setCell ⟨ps, o, none⟩ s).setCell ⟨g, m, none⟩ v0).setCell ⟨g, m + 1, none⟩ v1).setCell ⟨g, m + 2, none⟩ v2).setCell ⟨g, m + 3, none⟩ v3).setCell ⟨g, m + 4, none⟩ v4).setCell ⟨g, m + 5, none⟩ v5)) =
      ((((((w.setCell ⟨g, m, none⟩ v0).setCell ⟨g, m + 1, none⟩ v1).setCell ⟨g, m + 2, none⟩ v2).setCell ⟨g, m + 3, none⟩ v3).setCell ⟨g, m + 4, none⟩ v4).setCell ⟨g, m + 5, none⟩ v5).setCell ⟨ps, o, none⟩ s := by
  rw [setCell_comm w ⟨ps, o, none⟩ ⟨g, m, none⟩ _ _ h, setCell_comm _ ⟨ps, o, none⟩ ⟨g, m + 1, none⟩ _ _ h, setCell_comm _ ⟨ps, o, none⟩ ⟨g, m + 2, none⟩ _ _ h, setCell_comm _ ⟨ps, o, none⟩ ⟨g, m + 3, none⟩ _ _ h, setCell_comm _ ⟨ps, o, none⟩ ⟨g, m + 4, none⟩ _ _ h, setCell_comm _ ⟨ps, o, none⟩ ⟨g, m + 5, none⟩ _ _ h]
/-- what the walk reads behind the append -/
theorem all_facts {w wb w5 : World} {ps m g cap : Nat} {va vw v : Value} {Y Z X : List TV} {ts us : List T} {N : Nat} {F : List Nat} {S : Nat → Prop} (h : ShelfG w ps va vw Y Z ts us N F S) (hl : X.length = m) (hb : Below w.heap.size w wb)
    (hown : w5.ownsRow 0 29 6 (.slice (some ⟨g, 0, none⟩) (m + 1) cap) (m + 1) (rowCells X ++ zeroTV.cells.toList)) (hg : wb.grownBy w5 v.ownBlock) (hv : v.ownBlock = va.ownBlock ∨ v.ownBlock = vw.ownBlock) (hat : v.ownBlock = some g ∨ g = wb.heap.size) :
    g ≠ ps ∧ ps ≠ g ∧ w5.cell? ⟨ps, 0, none⟩ = some va ∧ w5.cell? ⟨ps, 1, none⟩ = some vw ∧ (∀ o, w5.frozen? ⟨ps, o, none⟩ = false) ∧ At w5 g (m * 6) zeroTV ∧ ∀ o, w5.frozen? ⟨g, o, none⟩ = false := by
  obtain ⟨n1, n2, n3, n4⟩ := nodupT.1 h.nodup
  have hp : ps < w.heap.size := h.lt ps (by simp [deskT])
  have hbz := hb.size
  have hvp : v.ownBlock ≠ some ps := fun e => by
    rcases hv with e' | e'
    · exact (n1 ps (e' ▸ e)).1 rfl
    · exact (n2 ps (e' ▸ e)).1 rfl
  have hk : w5.heap[ps]? = w.heap[ps]? := (hg.block ps (by omega) (fun e => hvp e.symm)).trans (hb.block ps hp)
  have hgp : g ≠ ps := by
    rcases hat with e | e
    · exact fun e' => hvp (e' ▸ e)
    · omega
  have hrow := row_at (ys := X ++ [zeroTV]) (by rw [rowCells_snoc]; exact hown)
  exact ⟨hgp, hgp.symm, (cell_of_heap hk).trans h.c0, (cell_of_heap hk).trans h.c1, fun o => (World.frozen?_of_block (a := ⟨ps, o, none⟩) hk).trans (h.f o), hrow.2.2 m zeroTV (by rw [List.getElem?_append_right (by omega), hl]; simp), fun o => hown.frozenAt o⟩
def Held_rk (W : World) (ps bt o : Nat) (v : Value) (x : TV) : Prop :=
  W.cell? ⟨ps, 1, none⟩ = some v ∧ W.frozen? ⟨ps, 1, none⟩ = false ∧ W.cell? ⟨bt, o, none⟩ = some (.int .i64 x.kind) ∧ W.cell? ⟨bt, o + 1, none⟩ = some (.string x.text) ∧ W.cell? ⟨bt, o + 2, none⟩ = some (.int .i64 x.n) ∧ W.cell? ⟨bt, o + 3, none⟩ = some (.slice x.sa x.sl x.sc) ∧ W.cell? ⟨bt, o + 4, none⟩ = some (.slice x.aa x.al x.ac) ∧ W.cell? ⟨bt, o + 5, none⟩ = some (.slice x.ka x.kl x.kc)
theorem Held_rk.later {w W : World} {ps bt o : Nat} {v : Value} {x : TV} (h : Held_rk w ps bt o v x) (hb : Below w.heap.size w W) (hp : ps < w.heap.size) (ht : bt < w.heap.size) : Held_rk W ps bt o v x := by
  have k1 : ∀ o, W.cell? ⟨ps, o, none⟩ = w.cell? ⟨ps, o, none⟩ := fun o => cell_of_heap (hb.block ps hp)
  have k2 : ∀ o, W.cell? ⟨bt, o, none⟩ = w.cell? ⟨bt, o, none⟩ := fun o => cell_of_heap (hb.block bt ht)
  obtain ⟨a0, a1, b0, b1, b2, b3, b4, b5⟩ := h
  exact ⟨(k1 _).trans a0, (World.frozen?_of_block (a := ⟨ps, 1, none⟩) (hb.block ps hp)).trans a1, (k2 _).trans b0, (k2 _).trans b1, (k2 _).trans b2, (k2 _).trans b3, (k2 _).trans b4, (k2 _).trans b5⟩
/-- the copy, whichever way the region was gone through -/
theorem rk_reads {W w8 : World} {lo : Nat} {u : T} {z : TV} (h : RepS w8 (Adds NoS W w8) u z) (hz : lo ≤ W.heap.size) : RepS w8 (fun b => lo ≤ b ∧ b < w8.heap.size) u z :=
  h.mono (fun b hb => by
    rcases hb with hb | hb
    · exact hb.elim
    · exact ⟨Nat.le_trans hz hb.1, hb.2⟩)
theorem rk_news {W w8 : World} (hb : Below (W.alloc (.cells zeroTV.cells 29)).heap.size (W.alloc (.cells zeroTV.cells 29)) w8) : ∀ j u, zeroTV.cells.toList[j]? = some u → w8.cell? ((⟨W.heap.size, 0, none⟩ : Addr).add j) = some u := by
  intro j u hu
  have h := row_new W zeroTV.cells 29 j u hu
  exact (hb.cell (p := (⟨W.heap.size, 0, none⟩ : Addr).add j) (World.block_lt_of_cell? _ _ h)).trans h
theorem same_world {B : Nat} {w7 wb w9 : World} {row : Option Nat} (_ : wb.grownBy w9 row) (h : Below B w7 wb) : Below B w7 wb := h
theorem rk_at {wb w8 w9 : World} {row : Option Nat} {lo : Nat} {u : T} {z : TV} (_ : wb.grownBy w9 row) (hb : Below w8.heap.size w8 wb) (h : RepS w8 (fun b => lo ≤ b ∧ b < w8.heap.size) u z) :
    RepS wb (fun b => lo ≤ b ∧ b < w8.heap.size) u z ∧ ∀ b, (lo ≤ b ∧ b < w8.heap.size) → lo ≤ b ∧ b < wb.heap.size :=
  ⟨h.below hb (fun _ hb => hb.2), fun _ h => ⟨h.1, Nat.lt_of_lt_of_le h.2 hb.size⟩⟩
/-- which answers were kept so far -/
def taken (Fy Fz : List Nat) (I : Nat) : List Nat := if I = 0 then [] else if I = 1 then Fy else Fy ++ Fz
/-- at a round's head -/
structure KRel (w wr : World) (ps : Nat) (va vw : Value) (F : List Nat) (S : Nat → Prop) (Fy Fz : List Nat) (I : Nat) (N : Nat) : Prop where
  ex : ∃ va' vw' Y Z ts F' S', SPush w wr ps va vw va' vw' Y Z ts ts N F F' S S' (taken Fy Fz I) ∧ ts.length ≤ N
  top : N ≤ 40000
theorem KRel.below {w wr W : World} {ps : Nat} {va vw : Value} {F : List Nat} {S : Nat → Prop} {Fy Fz : List Nat} {I N : Nat} (h : KRel w wr ps va vw F S Fy Fz I N) (hb : Below wr.heap.size wr W) : KRel w W ps va vw F S Fy Fz I N := by
  obtain ⟨⟨va', vw', Y, Z, ts, F', S', h1, h2⟩, h3⟩ := h
  exact ⟨⟨va', vw', Y, Z, ts, F', S', ⟨h1.shelf.below hb, h1.out.trans (Outside.of_below hb), h1.desk, h1.new⟩, h2⟩, h3⟩
theorem taken_sub (Fy Fz : List Nat) {I : Nat} (hI : I < 2) : ∀ b ∈ taken Fy Fz I, b ∈ taken Fy Fz (I + 1) := by
  intro b hb
  unfold taken at hb ⊢
  match I, hI with
  | 0, _ => simp at hb
  | 1, _ => simp at hb ⊢; exact .inl hb
/-- the answer that a round looks at -/
theorem pick_two {w : World} {u : T} {y z : TV} {Fy Fz : List Nat} {bt : Nat} (oy : Own w u y Fy) (oz : Own w u z Fz) (hN : (Fy ++ Fz).Nodup) (a0 : At w bt 0 y) (a1 : At w bt 6 z) {I : Nat} (hI : I < 2) :
    ∃ x Fx, At w bt (I * 6) x ∧ Own w u x Fx ∧ Fx.Nodup ∧ (∀ b ∈ Fx, b ∈ Fy ++ Fz) ∧ (∀ b ∈ Fx, b ∉ taken Fy Fz I) ∧ ∀ b ∈ Fx, b ∈ taken Fy Fz (I + 1) := by
  have hn := List.nodup_append.1 hN
  match I, hI with
  | 0, _ => exact ⟨y, Fy, a0, oy, hn.1, fun b hb => by simp [hb], fun b _ => by simp [taken], fun b hb => by simp [taken, hb]⟩
  | 1, _ => exact ⟨z, Fz, a1, oz, hn.2.1, fun b hb => by simp [hb], fun b hb hm => hn.2.2 b (by simpa [taken] using hm) b hb rfl, fun b hb => by simp [taken, hb]⟩

set_option maxRecDepth 100000 in
set_option maxHeartbeats 8000000 in
theorem keep_calls (u : T) (y z : TV) (Fy Fz : List Nat) (w : World) (ps bt : Nat) (H : Nat → Prop) (hS : ShelfS w ps H) (oy : Own w u y Fy) (oz : Own w u z Fz) (hN : (Fy ++ Fz).Nodup) (hF : ∀ b ∈ Fy ++ Fz, b < w.heap.size ∧ ¬ H b) (a0 : At w bt 0 y) (a1 : At w bt 6 z) (hbt : ¬ H bt) (hbl : bt < w.heap.size) (hfit : u.fits) (n2 : Nat) (h2 : n2 = 2) :
    Calls Tryz.prog 15 #[.pointer (some ⟨ps, 0, none⟩), .slice (some ⟨bt, 0, none⟩) n2 n2] w (KeepPost w ps H (Fy ++ Fz)) := by
  obtain ⟨va, vw, Y, Z, ts, N, F, S, hsh, hcnt, htop, hH, hHlt⟩ := hS
  have hdl := hsh.lt
  have hdH : ∀ b ∈ deskT ps va vw, H b := fun b hb => hH b (.inl (List.mem_append_left _ hb))
  have K0 := Lib.hid (show KRel w w ps va vw F S Fy Fz 0 N from ⟨⟨va, vw, Y, Z, ts, F, S, SPush.refl hsh _, hcnt⟩, htop⟩)
  have HP := Lib.hid (fun (I : Nat) (hI : I < 2) => pick_two oy oz hN a0 a1 hI)
  have hpost : ∀ (wr : World) (I N : Nat), I ≤ 2 → KRel w wr ps va vw F S Fy Fz I N → KeepPost w ps H (Fy ++ Fz) (.returned (.tuple #[])) wr := by
    intro wr I N' hI h
    obtain ⟨⟨va', vw', Y', Z', ts', F', S', h1, h2⟩, h3⟩ := h
    have hn : ∀ b, b ∈ deskT ps va' vw' ++ F' ∨ S' b → H b ∨ b ∈ Fy ++ Fz ∨ w.heap.size ≤ b := fun b hb => by
      rcases h1.new b hb with h | h | h
      · exact .inl (hH b h)
      · refine .inr (.inl ?_)
        unfold taken at h
        split at h
        · cases h
        · split at h
          · simp [h]
          · exact h
      · exact .inr (.inr h)
    refine ⟨rfl, fun b => (b ∈ deskT ps va' vw' ++ F' ∨ S' b), deskT ps va vw, ⟨va', vw', Y', Z', ts', N', F', S', h1.shelf, h2, h3, fun _ h => h, h1.shelf.all_lt⟩, hn, hdH, h1.out⟩
  have HPOST := Lib.hid hpost
  have H2 := Lib.hid h2
  have hn2 : n2 ≤ 1099511627776 := by omega
  have HFH := Lib.hid hF
  have HDH := Lib.hid hdH
  have HH := Lib.hid hH
  clear hsh hH oy oz hN a0 a1 hpost hF hdl hdH hHlt h2
  go_enter Tryz.func15, Tryz.ntmps15
  go_wp2_with fail
  go_loopw [4] (fun i wr => ∃ I N : Nat, I ≤ n2 ∧ i = .int .i64 I ∧ KRel w wr ps va vw F S Fy Fz I N) (fun i _ => n2 - (intOf i).toNat)
  case atStart => exact ⟨0, N, Nat.zero_le _, rfl, K0.out⟩
  case round =>
    obtain ⟨I, N1, hI, rfl, hrel⟩ := hrel
    have HR := Lib.hid hrel
    obtain ⟨⟨va1, vw1, Y1, Z1, ts1, F1, S1, hp, hcnt1⟩, htop1⟩ := hrel
    obtain ⟨s1, hs1⟩ : ∃ s1 : Int, s1 = (N1 : Int) := ⟨_, rfl⟩
    have k2 := hp.shelf.c2
    rw [← hs1] at k2
    have HS1 := Lib.hid hs1
    rcases (show (I < n2 ∧ s1 < 32768) ∨ (¬ I < n2 ∨ (I < n2 ∧ ¬ s1 < 32768)) from by omega) with ⟨h1, h2⟩ | hexit
    · obtain ⟨x, Fx, hat, hown, hnx, hin, hnot, hsub⟩ := HP.out I (by have := H2.out; omega)
      have hz := hp.out.size
      have hbt' : bt ∉ deskT ps va vw := fun hm => hbt (HDH.out bt hm)
      have hatr : At wr bt (I * 6) x := hat.kept (hp.out.block bt hbl hbt')
      have hownr : Own wr u x Fx := Own.kept _ _ _ hown (fun b hb => hp.out.block b (HFH.out b (hin b hb)).1 (fun hm => (HFH.out b (hin b hb)).2 (HDH.out b hm)))
      have hFxr : ∀ b ∈ Fx, b < wr.heap.size ∧ ¬ (b ∈ deskT ps va1 vw1 ++ F1 ∨ S1 b) := fun b hb => by
        have hb1 := HFH.out b (hin b hb)
        refine ⟨by omega, fun hm => ?_⟩
        rcases hp.new b hm with h | h | h
        · exact hb1.2 (HH.out b h)
        · exact hnot b hb h
        · omega
      have hrep : Rep wr wr.heap.size u x := hownr.rep _ _ _ (fun b hb => (hFxr b hb).1)
      have HLI := Lib.hid (fun (W : World) (h : Below wr.heap.size wr W) => light_calls u x wr.heap.size W (hrep.below h (Nat.le_refl _)) h.size)
      have HSZ := Lib.hid (fun (W : World) (h : Below wr.heap.size wr W) => size_later hrep (Nat.le_refl _) h)
      have HAT := Lib.hid hatr
      have HOWN := Lib.hid hownr
      have HFX := Lib.hid hFxr
      have HSUB := Lib.hid hsub
      have HNX := Lib.hid hnx
      have HREP := Lib.hid hrep
      have HPU := Lib.hid hp
      have HCN := Lib.hid hcnt1
      have i0 : (0 : Int) ≤ (I : Int) := by omega
      have i1 : (I : Int) < (n2 : Int) := by omega
      have hbr : bt < wr.heap.size := by omega
      have hnum : u.sizeN = u.nodes := by rw [T.sizeN, if_pos hfit]
      have hn0 := hfit.1
      have hn1 := T.nodes_pos u
      obtain ⟨q0, q1, q2, q3, q4, q5⟩ := hatr
      simp only [TV.val, TV.cells] at HLI
      clear hat hown hnx hin hnot hsub hownr hFxr hrep hp hs1 hcnt1 htop1
      go_wp2_with fail
      refine (HLI.out _ (Below.refl _ _)).mono ?_
      rintro e w4 ⟨light, rfl, hlight, hb4⟩
      have HB4 := Lib.hid hb4
      clear hlight hb4 q0 q1 q2 q3 q4 q5 k2
      cases light
      · dsimp only
        go_wp2_with fail
        go_roundw
        case rel =>
          refine ⟨I + 1, N1, by omega, by go_num, ?_⟩
          obtain ⟨⟨va', vw', Y, Z, ts, F', S', g1, g2⟩, g3⟩ := HR.out.below HB4.out
          exact ⟨⟨va', vw', Y, Z, ts, F', S', g1.mono (taken_sub Fy Fz (by have := H2.out; omega)), g2⟩, g3⟩
        case measure => simp [intOf]; omega
      · dsimp only
        obtain ⟨q0, q1, q2, q3, q4, q5⟩ := HAT.out.kept (HB4.out.block bt hbr)
        go_wp2_with fail
        refine (HSZ.out _ HB4.out).mono ?_
        rintro e w5 ⟨rfl, hb5⟩
        rw [hnum]
        have HB5 := Lib.hid (HB4.out.trans (hb5.mono HB4.out.size))
        clear hb5 q0 q1 q2 q3 q4 q5 HB4
        have hsh5 := HPU.out.shelf.below HB5.out
        have k2 := hsh5.c2
        have kf := hsh5.f
        rw [← HS1.out] at k2
        have r1 : IntKind.i64.wrap (s1 + (u.nodes : Int)) = s1 + (u.nodes : Int) := by have := HS1.out; rw [IntKind.wrap_i64]; omega
        go_upto_region 6 with fail
        have hcount := SPush.ahead HB5.out (SPush.count hsh5 (N1 + u.nodes) (taken Fy Fz (I + 1)))
        have e1 : ((N1 + u.nodes : Nat) : Int) = s1 + (u.nodes : Int) := by have := HS1.out; omega
        rw [e1] at hcount
        generalize w5.setCell ⟨ps, 2, none⟩ (.int .i64 (s1 + (u.nodes : Int))) = w6 at hcount ⊢
        have HC6 := Lib.hid hcount
        obtain ⟨pA, cA, eA, hcA⟩ := ownsRow_form hcount.shelf.r0
        obtain ⟨pW, cW, eW, hcW⟩ := ownsRow_form hcount.shelf.r1
        obtain ⟨m, hm⟩ : ∃ m, m = Y1.length := ⟨_, rfl⟩
        have hly : Y1.length = ts1.length := hcount.shelf.own.len
        have hlz : Z1.length = ts1.length := hcount.shelf.len
        rw [← hm] at eA
        rw [hlz, ← hly, ← hm] at eW
        subst eA
        subst eW
        have hmb : m ≤ 1000000 := by have := HR.out.top; have := HCN.out; omega
        have j0 : (0 : Int) ≤ (m : Int) := by omega
        have j1 : (m : Int) < (m : Int) + 1 := by omega
        have HM := Lib.hid hm
        have HLZ := Lib.hid (show Z1.length = m from by omega)
        have c0 := hcount.shelf.c0
        have cf := hcount.shelf.f
        have hpz : ps < w6.heap.size := hcount.shelf.lt ps (by simp [deskT])
        have hbz6 : bt < w6.heap.size := Nat.lt_of_lt_of_le hbr hcount.out.size
        have hbd : bt ∉ deskT ps (.slice pA m cA) (.slice pW m cW) := fun hm => by
          rcases HPU.out.desk bt hm with h | h
          · exact hbt (HDH.out bt h)
          · omega
        have HAT6 := Lib.hid (HAT.out.kept (hcount.out.block bt hbr hbd))
        obtain ⟨q0, q1, q2, q3, q4, q5⟩ := HAT6.out
        have hbp : ¬ bt = ps := fun e => hbd (by rw [memT]; exact .inl e)
        have hpb : ¬ ps = bt := fun e => hbp e.symm
        obtain ⟨m0, hm0, hmz0, hmz1, hmz2⟩ := info_parts info_term0
        have HX6 := Lib.hid (show Own w6 u x Fx ∧ ∀ b ∈ Fx, b < w6.heap.size ∧ ¬ (b ∈ deskT ps (.slice pA m cA) (.slice pW m cW) ++ F1 ∨ S1 b) from
          ⟨Own.kept _ _ _ HOWN.out (fun b hb => hcount.out.block b (HFX.out b hb).1 (fun hm => (HFX.out b hb).2 (.inl (List.mem_append_left _ hm)))), fun b hb => ⟨Nat.lt_of_lt_of_le (HFX.out b hb).1 hcount.out.size, (HFX.out b hb).2⟩⟩)
        have n1' : ¬ ps = w6.heap.size := by omega
        have n2' : ¬ bt = w6.heap.size := by omega
        clear hcount hsh5 k2 kf e1 hly hlz hm hbd r1 hcA hcW
        go_cut [] from 43 to 56 (fun wq => ∃ g cap, SPush w6 wq ps (.slice pA m cA) (.slice pW m cW) (.slice (some ⟨g, 0, none⟩) (m + 1) cap) (.slice pW m cW) (Y1 ++ [x]) Z1 (ts1 ++ [u]) ts1 (N1 + u.nodes) F1 (F1 ++ Fx) S1 S1 Fx)
        case first =>
          go_region_law (first
            | (refine step_append_lies _ (by rfl) _ _ 22 (by rfl) 0 29 m0 _ 6 104 Tryz.underlying22 hm0 hmz0 hmz1 hmz2 (by rfl) (by decide) (.slice pA m cA) m (rowCells Y1) (by rfl) ((by have := HC6.out.shelf.r0; rwa [← HM.out] at this : w6.ownsRow 0 29 6 (.slice pA m cA) m (rowCells Y1)).kept (grown_of_below (by go_grown) none) (Classical.em _)) ⟨w6.heap.size, 0, none⟩ 1 1 zeroTV.cells.toList (by rfl) (by rfl) (row_new w6 zeroTV.cells _) (cells_one _) (by omega) (by unfold maxLen; omega) (by omega) (Nat.zero_le _) _ rfl ?_; intro g cap w7 hown hgrow hat hlt5; obtain ⟨g1, g2, g3, g4, g5, ⟨z0, z1, z2, z3, z4, z5⟩, zf⟩ := all_facts HC6.out.shelf HM.out.symm (by go_grown : Below w6.heap.size w6 _) hown hgrow (.inl rfl) hat; simp only [zeroTV] at z0 z1 z2 z3 z4 z5))
          all_goals
            have HRES := Lib.hid (SPush.all HC6.out.shelf HM.out.symm (by go_grown : Below w6.heap.size w6 _) (rows_put (y := x) HM.out.symm hown) (grown_put hgrow hat _ _ _ _ _ _) hat HX6.out.1 HNX.out HX6.out.2 hfit)
            go_wp2_with fail
            go_meet
            case rel => first | (with_reducible exact ⟨g, cap, HRES.out⟩) | (rw [set6_comm _ g2]; with_reducible exact ⟨g, cap, HRES.out⟩)
        case rest =>
        obtain ⟨g, cap, hsp⟩ := hcut
        have HS7 := Lib.hid hsp
        generalize wc = w7 at hsp HS7 ⊢
        have c0 := hsp.shelf.c1
        have cf := hsp.shelf.f
        have hpz7 : ps < w7.heap.size := hsp.shelf.lt ps (by simp [deskT])
        have hz67 := hsp.out.size
        have hbz7 : bt < w7.heap.size := by omega
        have hbd : bt ∉ deskT ps (.slice pA m cA) (.slice pW m cW) := fun hm => by
          rcases HPU.out.desk bt (by rw [memT] at hm ⊢; exact hm) with h | h
          · exact hbt (HDH.out bt h)
          · omega
        have HAT7 := Lib.hid (HAT6.out.kept (hsp.out.block bt hbz6 hbd))
        obtain ⟨q0, q1, q2, q3, q4, q5⟩ := HAT7.out
        have hrep7 : Rep w7 w7.heap.size u x := (Own.kept _ _ _ HX6.out.1 (fun b hb => hsp.out.block b (HX6.out.2 b hb).1 (fun hm => (HX6.out.2 b hb).2 (.inl (List.mem_append_left _ hm))))).rep _ _ _ (fun b hb => by have := (HX6.out.2 b hb).1; omega)
        have HOW := Lib.hid (fun (W : World) (h : Below w7.heap.size w7 W) => own_law u hn0 x w7.heap.size W (hrep7.below h (Nat.le_refl _)) h.size)
        have S0 := Lib.hid (show Held_rk w7 ps bt (I * 6) (.slice pW m cW) x from ⟨c0, cf 1, q0, q1, q2, q3, q4, q5⟩)
        have n3' : ¬ ps = w7.heap.size := by omega
        have n4' : ¬ bt = w7.heap.size := by omega
        have n5' : ¬ w7.heap.size = ps := by omega
        have n6' : ¬ w7.heap.size = bt := by omega
        simp only [TV.val, TV.cells] at HOW
        clear hsp hbd hrep7 cf
        go_upto_region 7 with fail
        go_region_law (first
          | (refine step_append_lies _ (by rfl) _ _ 22 (by rfl) 0 29 m0 _ 6 104 Tryz.underlying22 hm0 hmz0 hmz1 hmz2 (by rfl) (by decide) (.slice pW m cW) m (rowCells Z1) (by rfl) ((by have := HS7.out.shelf.r1; rwa [HLZ.out] at this : w7.ownsRow 0 29 6 (.slice pW m cW) m (rowCells Z1)).kept (grown_of_below HB8.out none) (Classical.em _)) ⟨w7.heap.size, 0, none⟩ 1 1 zeroTV.cells.toList (by rfl) (by rfl) (HNW.out) (cells_one _) (by omega) (by unfold maxLen; omega) (by omega) (Nat.zero_le _) _ rfl ?_; intro gw capw w9 hown hgrow hat hlt9; have HBW := Lib.hid (same_world hgrow HB8.out); have HZW := Lib.hid (rk_at hgrow (Below.refl _ _) HR8.out); obtain ⟨g1, g2, _, g4, g5, ⟨z0, z1, z2, z3, z4, z5⟩, zf⟩ := all_facts HS7.out.shelf HLZ.out HBW.out hown hgrow (.inr rfl) hat; simp only [zeroTV] at z0 z1 z2 z3 z4 z5)
          | (refine step_append_lies _ (by rfl) _ _ 22 (by rfl) 0 29 m0 _ 6 104 Tryz.underlying22 hm0 hmz0 hmz1 hmz2 (by rfl) (by decide) (.slice pW m cW) m (rowCells Z1) (by rfl) ((by have := HS7.out.shelf.r1; rwa [HLZ.out] at this : w7.ownsRow 0 29 6 (.slice pW m cW) m (rowCells Z1)).kept (grown_of_below (HB8.out.alloc HB8.out.size _) none) (Classical.em _)) ⟨w8.heap.size, 0, none⟩ 1 1 zeroTV.cells.toList (by rfl) (by rfl) (row_new w8 zeroTV.cells _) (cells_one _) (by omega) (by unfold maxLen; omega) (by omega) (Nat.zero_le _) _ rfl ?_; intro gw capw w9 hown hgrow hat hlt9; have HBW := Lib.hid (same_world hgrow (HB8.out.alloc HB8.out.size _)); have HZW := Lib.hid (rk_at hgrow ((Below.refl _ _).alloc (Nat.le_refl _) _) HR8.out); obtain ⟨g1, g2, _, g4, g5, ⟨z0, z1, z2, z3, z4, z5⟩, zf⟩ := all_facts HS7.out.shelf HLZ.out HBW.out hown hgrow (.inr rfl) hat; simp only [zeroTV] at z0 z1 z2 z3 z4 z5)
          | (go_simp; go_at_call 36; (with_reducible refine (HOW.out _ (by first | exact Below.refl _ _ | exact (Below.refl _ _).drew | exact (Below.refl _ _).alloc (Nat.le_refl _) _ | exact ((Below.refl _ _).alloc (Nat.le_refl _) _).drew | exact (Below.refl _ _).drew.alloc (Nat.le_refl _) _)).mono ?_); rintro e w8 ⟨z, rfl, hr8, hb8⟩; simp only [TV.val, TV.cells]; have HB8 := Lib.hid (show Below w7.heap.size w7 w8 from by first | exact hb8 | exact (Below.refl _ _).drew.trans hb8 | exact ((Below.refl _ _).alloc (Nat.le_refl _) _).trans (hb8.mono (by simp only [World.size_alloc]; omega)) | exact ((Below.refl _ _).alloc (Nat.le_refl _) _).drew.trans (hb8.mono (by simp only [World.size_drew, World.size_alloc]; omega)) | exact ((Below.refl _ _).drew.alloc (Nat.le_refl _) _).trans (hb8.mono (by simp only [World.size_drew, World.size_alloc]; omega))); have S1 := S0.out.later HB8.out hpz7 hbz7; unfold Held_rk at S1; obtain ⟨c0, cf1, q0, q1, q2, q3, q4, q5⟩ := S1; have nz1 : ps < w8.heap.size := Nat.lt_of_lt_of_le hpz7 HB8.out.size; have nz2 : ¬ ps = w8.heap.size := (by omega); have nz3 : ¬ w8.heap.size = ps := (by omega); have HR8 := Lib.hid (rk_reads (lo := w7.heap.size) hr8 (by first | exact Nat.le_refl _ | (simp only [World.size_drew, World.size_alloc]; omega))); (try have HNW := Lib.hid (rk_news (W := w7) (by first | exact hb8 | exact (Below.refl _ _).drew.trans hb8))); clear hr8 hb8))
        all_goals
          have HRES := Lib.hid (SPush.were (Fy := taken Fy Fz (I + 1)) HS7.out.shelf HLZ.out HBW.out (rows_put (y := z) HLZ.out hown) (grown_put hgrow hat _ _ _ _ _ _) hat HZW.out.1 HZW.out.2)
          have HFIN := Lib.hid (fun (W : World) (vf : Value) (h : SPush w7 W ps (.slice (some ⟨g, 0, none⟩) (m + 1) cap) (.slice pW m cW) (.slice (some ⟨g, 0, none⟩) (m + 1) cap) vf (Y1 ++ [x]) (Z1 ++ [z]) (ts1 ++ [u]) (ts1 ++ [u]) (N1 + u.nodes) (F1 ++ Fx) (F1 ++ Fx) S1 (fun b => S1 b ∨ (w7.heap.size ≤ b ∧ b < w8.heap.size)) (taken Fy Fz (I + 1))) => (show KRel w W ps va vw F S Fy Fz (I + 1) (N1 + u.nodes) from
            ⟨⟨_, _, _, _, _, _, _, (((HPU.out.mono (taken_sub Fy Fz (by have := H2.out; omega))).trans HC6.out).trans (HS7.out.mono HSUB.out)).trans h, by have := HCN.out; simp only [List.length_append, List.length_cons, List.length_nil]; omega⟩, by have := HS1.out; omega⟩))
          go_wp2_with fail
          go_roundw
          case rel => first | (with_reducible exact ⟨I + 1, N1 + u.nodes, Nat.succ_le_of_lt h1, by go_num, HFIN.out _ _ HRES.out⟩) | (rw [set6_comm _ g2]; with_reducible exact ⟨I + 1, N1 + u.nodes, Nat.succ_le_of_lt h1, by go_num, HFIN.out _ _ HRES.out⟩)
          case measure => simp [intOf]; omega
    · rcases hexit with hexit | ⟨hexit, hex2⟩
      all_goals
        clear hp hs1 hcnt1 htop1
        go_wp2_with fail
        refine bodyPost_ret (results_none rfl _ _ _) rfl ?_
        exact HPOST.out _ _ _ (by have := H2.out; omega) HR.out
end Go.Proofs.YtnnhbpgpkpbinaaGreat
