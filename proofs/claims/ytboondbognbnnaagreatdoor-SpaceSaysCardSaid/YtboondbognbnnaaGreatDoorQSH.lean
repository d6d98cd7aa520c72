/- The law SpaceSays, walked. The law SpaceSays, walked. -/
import Derived.Test.YtboondbognbnnaaGreatDoorQSG
set_option linter.unusedVariables false
set_option linter.unusedSimpArgs false
namespace Go.Proofs.YtboondbognbnnaaGreatDoor
open Go.RowKit
/-- where the law stands: its two boxes, its workspace above them -/
structure LawAt (p : SB) (w0 : World) (x : TV) (y : AV) (w : World) : Prop where
  below : Below w0.heap.size w0 w
  bx : Box w w0.heap.size x
  by_ : Boxd w (w0.heap.size + 1) y.cells
  hp : ∀ b, p.has b → w0.heap.size + 2 ≤ b
theorem LawAt.turn {p : SB} {w0 w w' : World} {x : TV} {y : AV} (h : LawAt p w0 x y w) (ht : Turn p w w') : LawAt p w0 x y w' := by
  have h1 := h.by_.lt
  exact ⟨h.below.trans (ht.below h.below.size (fun b hb => by have := h.hp b hb; omega)), h.bx.turn ht (by omega) (fun e => by have := h.hp _ e; omega), h.by_.turn ht (fun e => by have := h.hp _ e; omega), h.hp⟩
theorem LawAt.later {p : SB} {w0 w w' : World} {x : TV} {y : AV} (h : LawAt p w0 x y w) (hb : Below w.heap.size w w') : LawAt p w0 x y w' := h.turn (Turn.of_below hb)
theorem LawAt.safe {p : SB} {w0 w : World} {x : TV} {y : AV} (h : LawAt p w0 x y w) : ∀ b, b < w0.heap.size → p.safe w b := fun b hb => ⟨Nat.lt_of_lt_of_le hb h.below.size, fun e => by have := h.hp b e; omega⟩
theorem LawAt.rep {p : SB} {w0 w : World} {x : TV} {y : AV} (h : LawAt p w0 x y w) {t : T} {z : TV} (hr : RepS w0 (· < w0.heap.size) t z) : RepS w (p.safe w) t z := RepS.keep (fun b _ hb => cell_of_heap (h.below.block b hb)) h.safe t z hr
theorem LawAt.arep {p : SB} {w0 w : World} {x : TV} {y : AV} (h : LawAt p w0 x y w) {sh a : List Int} {z : AV} (hr : ARepS w0 (· < w0.heap.size) sh a z) : ARepS w (p.safe w) sh a z := hr.keep (fun b _ hb => cell_of_heap (h.below.block b hb)) h.safe
theorem law_boxes (w : World) (x : TV) (y : AV) (w2 : World) (h : (w.alloc (.cells x.cells 29)).alloc (.cells y.cells 26) = w2) : Below w.heap.size w w2 ∧ Box w2 w.heap.size x ∧ Boxd w2 (w.heap.size + 1) y.cells ∧ w2.heap.size = w.heap.size + 2 := by
  subst h
  refine ⟨by go_grown, (Box.new w x _).alloc _, ?_, by simp⟩
  have := Boxd.new (w.alloc (.cells x.cells 29)) y.cells 26
  simpa using this
theorem listOf_le {p : SB} {w : World} {all : Int} {DV DN DS : DataW Value} {n : Nat} {σ : Names} (h : Sp p w all DV DN DS n σ) : (listOf σ DS).length ≤ 100000 := by
  have h1 : (listOf σ DS).length = Maps.size DS := by
    unfold listOf keysS
    rw [List.length_map, List.length_mergeSort]
    obtain ⟨es, rfl⟩ := World.ownsMap.isMap h.s
    simp [strKeys, Maps.size_eq]
  rw [h1]
  exact Nat.le_trans (World.ownsMap.size_le h.s) h.le
theorem may_is {t : T} {x : TV} {c : Int} {w : World} (hm : T.may t c = 0) (h : Calls Tryz.prog 12 #[x.val, .int .i64 c] w (MayPost t c w)) : Calls Tryz.prog 12 #[x.val, .int .i64 c] w fun e w' => e = .returned (.int .i64 0) ∧ Below w.heap.size w w' := by
  refine h.mono fun e w' h => ⟨?_, h.2⟩
  rw [h.1, hm]
theorem amay_is {sh a : List Int} {x : AV} {w : World} (hm : amay sh a.length = 0) (h : Calls Tryz.prog 16 #[x.val] w fun e w' => e = .returned (.int .i64 (amay sh a.length)) ∧ Below w.heap.size w w') : Calls Tryz.prog 16 #[x.val] w fun e w' => e = .returned (.int .i64 0) ∧ Below w.heap.size w w' := by
  refine h.mono fun e w' h => ⟨?_, h.2⟩
  rw [h.1, hm]
theorem verb_any {σ : Names} {k : List UInt8} {w w' : World} {e : Ending} (h : VerbPost σ k w e w') : ∃ (y : TV) (f : Int), e = .returned (.tuple #[TV.val y, .int .i64 f]) ∧ Below w.heap.size w w' := by
  obtain ⟨hb, h⟩ := h
  split at h
  · obtain ⟨y, e, _⟩ := h
    exact ⟨y, 0, e, hb⟩
  · exact ⟨zeroTV, 15, h, hb⟩
theorem noun_any {σ : Names} {k : List UInt8} {w w' : World} {e : Ending} (h : NounPost σ k w e w') : ∃ (y : AV) (f : Int), e = .returned (.tuple #[AV.val y, .int .i64 f]) ∧ Below w.heap.size w w' := by
  obtain ⟨hb, h⟩ := h
  split at h
  · obtain ⟨y, e, _⟩ := h
    exact ⟨y, 0, e, hb⟩
  · exact ⟨zeroAV, 15, h, hb⟩
/-- the list of a workspace in which the names mean what σ says -/
def ListIs (σ : Names) (L : List DR) : Prop := ∃ (p : SB) (w : World) (all : Int) (DV DN DS : DataW Value) (n : Nat), Sp p w all DV DN DS n σ ∧ L = listOf σ DS
theorem SpN.listIs {p : SB} {w : World} {n : Nat} {σ : Names} (h : SpN p w n σ) : ∃ L, ListIs σ L := by
  obtain ⟨all, DV, DN, DS, h⟩ := h
  exact ⟨_, p, w, all, DV, DN, DS, n, h, rfl⟩
theorem ListIs.len {σ : Names} {L : List DR} (h : ListIs σ L) : L.length ≤ 100000 := by
  obtain ⟨p, w, all, DV, DN, DS, n, h, rfl⟩ := h
  exact listOf_le h
theorem ListIs.calls {σ : Names} {L : List DR} (h : ListIs σ L) {p : SB} {w : World} {n : Nat} (k : SpN p w n σ) : Calls Tryz.prog 8 #[.pointer (some ⟨p.s, 0, none⟩)] w (ListPost L w) := by
  obtain ⟨p', w', all', DV', DN', DS', n', h, rfl⟩ := h
  obtain ⟨all, DV, DN, DS, k⟩ := k
  rw [list_same k h]
  exact list_calls k
theorem ListIs.less {σ σ' : Names} {L : List DR} {key : List UInt8} (h : ListIs σ L) {p : SB} {w : World} {n : Nat} (k : SpN p w n σ') (hσ : ∀ j, σ' j = if j = key then none else σ j) : ListIs σ' (L.filter fun r => decide (r.k ≠ key)) := by
  obtain ⟨p', w', all', DV', DN', DS', n', h, rfl⟩ := h
  obtain ⟨all, DV, DN, DS, k⟩ := k
  exact ⟨p, w, all, DV, DN, DS, n, k, (list_less h k hσ).symm⟩
theorem SpN.lt {p : SB} {w : World} {n : Nat} {σ : Names} (h : SpN p w n σ) {b : Nat} (hb : p.has b) : b < w.heap.size := by
  obtain ⟨all, DV, DN, DS, h⟩ := h
  exact h.lt hb
theorem drop_yes {p : SB} {w : World} {n : Nat} {σ : Names} (h : SpN p w n σ) (s : ByteArray) (hs : s.size ≤ 140737488355328) (hk : (σ s.data.toList).isSome = true) :
    Calls Tryz.prog 18 #[.pointer (some ⟨p.s, 0, none⟩), .string s] w fun e w' => e = .returned (.int .i64 0) ∧ Turn p w w' ∧ SpN p w' n (σ.drop s.data.toList) := by
  obtain ⟨all, DV, DN, DS, h⟩ := h
  refine (drop_calls h s hs).mono fun e w' ⟨ht, hd⟩ => ?_
  rw [if_pos hk] at hd
  obtain ⟨he, all', hd⟩ := hd
  exact ⟨he, ht, _, _, _, _, hd⟩
theorem drop_no {p : SB} {w : World} {n : Nat} {σ : Names} (h : SpN p w n σ) (s : ByteArray) (hs : s.size ≤ 140737488355328) (hk : σ s.data.toList = none) :
    Calls Tryz.prog 18 #[.pointer (some ⟨p.s, 0, none⟩), .string s] w fun e w' => e = .returned (.int .i64 15) ∧ w' = w := by
  obtain ⟨all, DV, DN, DS, h⟩ := h
  refine (drop_calls h s hs).mono fun e w' ⟨ht, hd⟩ => ?_
  rw [if_neg (by rw [hk]; simp)] at hd
  exact hd
theorem verb_yes {p : SB} {w : World} {n : Nat} {σ : Names} {t : T} (h : SpN p w n σ) (s : ByteArray) (hs : s.size ≤ 140737488355328) (hk : σ s.data.toList = some (.verb t)) :
    Calls Tryz.prog 10 #[.pointer (some ⟨p.s, 0, none⟩), .string s] w fun e w' => Below w.heap.size w w' ∧ ∃ y, e = .returned (.tuple #[TV.val y, .int .i64 0]) ∧ RepS w' (fun b => w.heap.size ≤ b ∧ b < w'.heap.size) t y := by
  obtain ⟨all, DV, DN, DS, h⟩ := h
  refine (verb_calls h s hs).mono fun e w' hd => ?_
  unfold VerbPost at hd
  rw [hk] at hd
  exact hd
theorem noun_yes {p : SB} {w : World} {n : Nat} {σ : Names} {sh a : List Int} (h : SpN p w n σ) (s : ByteArray) (hs : s.size ≤ 140737488355328) (hk : σ s.data.toList = some (.noun sh a)) :
    Calls Tryz.prog 14 #[.pointer (some ⟨p.s, 0, none⟩), .string s] w fun e w' => Below w.heap.size w w' ∧ ∃ y, e = .returned (.tuple #[AV.val y, .int .i64 0]) ∧ ARepS w' (fun b => w.heap.size ≤ b ∧ b < w'.heap.size) sh a y := by
  obtain ⟨all, DV, DN, DS, h⟩ := h
  refine (noun_calls h s hs).mono fun e w' hd => ?_
  unfold NounPost at hd
  rw [hk] at hd
  exact hd
theorem verb_no {p : SB} {w : World} {n : Nat} {σ : Names} (h : SpN p w n σ) (s : ByteArray) (hs : s.size ≤ 140737488355328) (hk : σ s.data.toList = none) :
    Calls Tryz.prog 10 #[.pointer (some ⟨p.s, 0, none⟩), .string s] w fun e w' => e = .returned (.tuple #[zeroTV.val, .int .i64 15]) ∧ Below w.heap.size w w' := by
  obtain ⟨all, DV, DN, DS, h⟩ := h
  refine (verb_calls h s hs).mono fun e w' hd => ?_
  unfold VerbPost at hd
  rw [hk] at hd
  exact ⟨hd.2, hd.1⟩
theorem noun_no {p : SB} {w : World} {n : Nat} {σ : Names} (h : SpN p w n σ) (s : ByteArray) (hs : s.size ≤ 140737488355328) (hk : σ s.data.toList = none) :
    Calls Tryz.prog 14 #[.pointer (some ⟨p.s, 0, none⟩), .string s] w fun e w' => e = .returned (.tuple #[zeroAV.val, .int .i64 15]) ∧ Below w.heap.size w w' := by
  obtain ⟨all, DV, DN, DS, h⟩ := h
  refine (noun_calls h s hs).mono fun e w' hd => ?_
  unfold NounPost at hd
  rw [hk] at hd
  exact ⟨hd.2, hd.1⟩
theorem verbN_any {p : SB} {w : World} {n : Nat} {σ : Names} (h : SpN p w n σ) (s : ByteArray) (hs : s.size ≤ 140737488355328) :
    Calls Tryz.prog 10 #[.pointer (some ⟨p.s, 0, none⟩), .string s] w fun e w' => ∃ (y : TV) (f : Int), e = .returned (.tuple #[TV.val y, .int .i64 f]) ∧ Below w.heap.size w w' := by
  obtain ⟨all, DV, DN, DS, h⟩ := h
  exact (verb_calls h s hs).mono fun e w' hd => verb_any hd
theorem nounN_any {p : SB} {w : World} {n : Nat} {σ : Names} (h : SpN p w n σ) (s : ByteArray) (hs : s.size ≤ 140737488355328) :
    Calls Tryz.prog 14 #[.pointer (some ⟨p.s, 0, none⟩), .string s] w fun e w' => ∃ (y : AV) (f : Int), e = .returned (.tuple #[AV.val y, .int .i64 f]) ∧ Below w.heap.size w w' := by
  obtain ⟨all, DV, DN, DS, h⟩ := h
  exact (noun_calls h s hs).mono fun e w' hd => noun_any hd
/-- the lines kept so far -/
def RestRel (w1 : World) (L : List DR) (key : List UInt8) (k : Nat) (v : Value) (wr : World) : Prop := RRow w1.heap.size ((L.take k).filter fun r => decide (r.k ≠ key)) v wr ∧ Below w1.heap.size w1 wr
theorem RestRel.start (w1 : World) (L : List DR) (key : List UInt8) : RestRel w1 L key 0 (.slice none 0 0) w1 := ⟨by simpa using RRow.start _ _, Below.refl _ _⟩
theorem RestRel.skip {w1 wr : World} {L : List DR} {key : List UInt8} {k : Nat} {v : Value} {r : DR} (h : RestRel w1 L key k v wr) (hr : L[k]? = some r) (hk : r.k = key) : RestRel w1 L key (k + 1) v wr := by
  have e : (L.take (k + 1)).filter (fun r => decide (r.k ≠ key)) = (L.take k).filter fun r => decide (r.k ≠ key) := by
    rw [List.take_add_one, List.filter_append, hr]
    simp [hk]
  unfold RestRel
  rw [e]
  exact h
theorem RestRel.push {w1 wr w5 : World} {L : List DR} {key : List UInt8} {k m : Nat} {v v' : Value} {r : DR} {d : DefV} {ds : List DefV} {o : Obj} (h : RestRel w1 L key k v wr) (hr : L[k]? = some r) (hk : r.k ≠ key) (hm : m = ((L.take k).filter fun r => decide (r.k ≠ key)).length)
    (h1 : wr.ownsRow w1.heap.size 49 9 v m (flat9 ds)) (h2 : ds.length = m) (h3 : ∀ (j : Nat) (r' : DR), ((L.take k).filter fun r => decide (r.k ≠ key))[j]? = some r' → ∃ d, ds[j]? = some d ∧ DefS wr (· < w1.heap.size) r' d)
    (hd : DefS wr (· < w1.heap.size) r d) (hrow : w5.ownsRow w1.heap.size 49 9 v' (m + 1) (flat9 ds ++ d.cells.toList)) (hg : (wr.alloc o).grownBy w5 v.ownBlock) : RestRel w1 L key (k + 1) v' w5 := by
  subst hm
  obtain ⟨a, b⟩ := RRow.step h1 h2 h3 h.2.size hd hrow hg
  refine ⟨?_, h.2.trans b⟩
  rw [List.take_add_one, List.filter_append, hr]
  simpa [hk] using a
theorem RestRel.ends {w1 wr : World} {L : List DR} {key : List UInt8} {v : Value} (h : RestRel w1 L key L.length v wr) : ∃ A c, v = .slice A (L.filter fun r => decide (r.k ≠ key)).length c ∧ DefsAt wr (· < wr.heap.size) A (L.filter fun r => decide (r.k ≠ key)).length (L.filter fun r => decide (r.k ≠ key)) := by
  have := h.1
  rw [List.take_length] at this
  exact this.ends
end Go.Proofs.YtboondbognbnnaaGreatDoor

namespace Go.Proofs.YtboondbognbnnaaGreatDoor
open Go.RowKit
set_option maxRecDepth 100000 in
set_option maxHeartbeats 4000000 in
theorem spaceSays_calls {A : Option Addr} {len cap : Nat} {L : List DR} {t : T} {x : TV} {sh a : List Int} {y : AV} {s : ByteArray} {w : World} (hL : DefsAt w (· < w.heap.size) A len L) (hok : ∀ r ∈ L, r.ok) (hl : len ≤ 17592186044416) (hs : s.size ≤ 140737488355328)
    (hx : RepS w (· < w.heap.size) t x) (hg : Pp.rng t = true) (hy : ARepS w (· < w.heap.size) sh a y) (hrs : ∀ v ∈ sh, Pz.inRange v = true) (hra : ∀ v ∈ a, Pz.inRange v = true) (hT : Tabs w.heap.size w)
    (hB : ∀ W, Below w.heap.size w W → Calls Tryz.prog 5 #[] W fun e w' => e = .returned (.bool true) ∧ Below W.heap.size W w') :
    Calls Tryz.prog 3 #[.slice A len cap, .string s, x.val, y.val] w fun e w' => e = .returned (.bool true) ∧ Below w.heap.size w w' := by
  have HX := Lib.hid hx
  have HY := Lib.hid hy
  have HT := Lib.hid hT
  have HBEG := Lib.hid hB
  have HL := Lib.hid hL
  have HOK := Lib.hid hok
  have HG := Lib.hid hg
  have HRS := Lib.hid hrs
  have HRA := Lib.hid hra
  have HLEN := Lib.hid hl
  have HS := Lib.hid hs
  clear hx hy hT hB hL hok hg hrs hra hl
  unfold TV.val AV.val TV.cells AV.cells
  go_enter Tryz.func3, Tryz.ntmps3
  go_upto_region 1 with fail
  generalize hW : World.alloc _ _ = w1
  obtain ⟨hb1, hbx1, hby1, hz1⟩ := law_boxes w x y w1 hW
  have HB1 := Lib.hid hb1
  have HBX1 := Lib.hid hbx1
  have HBY1 := Lib.hid hby1
  have HZ1 := Lib.hid hz1
  have HB := Lib.hid (HBEG.out w1 hb1)
  clear hW hb1 hbx1 hby1 hz1
  go_upto_region 3 with (go_at_call 5; refine HB.out.mono ?_; rintro e w2 ⟨rfl, hb2⟩; have HB2 := Lib.hid hb2; clear hb2)
  have hb02 := HB1.out.trans (HB2.out.mono HB1.out.size)
  have hz2 := HZ1.out
  have hzz := HB2.out.size
  have hbx2 := HBX1.out.below HB2.out (by omega)
  have hsm := small_calls t x w.heap.size w2 (RepS.rep (fun _ h => h) _ _ (RepS.keep (w' := w2) (fun b _ hb => cell_of_heap (hb02.block b hb)) (fun _ h => h) t x HX.out)) (by omega)
  have HSM := Lib.hid hsm
  have HB02 := Lib.hid hb02
  obtain ⟨q0, q1, q2, q3, q4, q5, qf⟩ := hbx2
  have hlt2 : w.heap.size < w2.heap.size := by omega
  unfold TV.val TV.cells at HSM
  clear hb02 hsm hz2 hzz
  go_upto_region 5 with (go_at_call 6; refine HSM.out.mono ?_; rintro e w3 ⟨q, rfl, hb3⟩; have HB3 := Lib.hid hb3; clear hb3 q0 q1 q2 q3 q4 q5 qf hlt2)
  · go_wp2_with fail
    go_ret
    exact ⟨rfl, HB02.out.trans (HB3.out.mono HB02.out.size)⟩
  have hb03 := HB02.out.trans (HB3.out.mono HB02.out.size)
  have HB03 := Lib.hid hb03
  have HF := Lib.hid (filled_calls (cap := cap) ((HL.out.keep (w' := w3) (fun b _ hb => cell_of_heap (hb03.block b hb)) (fun _ h => h)).keep (S' := (· < w3.heap.size)) (fun _ _ _ => rfl) (fun b hb => Nat.lt_of_lt_of_le hb hb03.size)) HOK.out HLEN.out (HT.out.up hb03 hb03.size))
  clear hb03
  unfold FillPost at HF
  go_upto_region 6 with (go_at_call 7; refine HF.out.mono ?_; rintro e w4 ⟨p, rfl, hsp, hp, hb4⟩; have HSP := Lib.hid hsp; have HP := Lib.hid hp; have HB4 := Lib.hid hb4; clear hsp hp hb4)
  obtain ⟨σ, hsp⟩ := HSP.out
  obtain ⟨Lb, hli⟩ := hsp.listIs
  have HLI := Lib.hid hli
  have LA4 := Lib.hid (show LawAt p w x y w4 from by
    have h02 := HB1.out.trans (HB2.out.mono HB1.out.size)
    have h12 := HB2.out.trans (HB3.out.mono HB2.out.size)
    have h14 := h12.trans (HB4.out.mono h12.size)
    have hz1 := HZ1.out
    have hz := h12.size
    exact ⟨HB03.out.trans (HB4.out.mono HB03.out.size), HBX1.out.below h14 (by omega), HBY1.out.later h14, fun b hb => by have := HP.out b hb; omega⟩)
  have SP4 := Lib.hid hsp
  have HLC := Lib.hid (hli.calls hsp)
  clear HSP HP HB4 HB03 HB3 HB02 HB2 HBX1 HBY1 HZ1 HB1 HSM HF HB HBEG HL HOK hsp hli
  unfold ListPost at HLC
  go_upto_region 7 with (go_at_call 8; refine HLC.out.mono ?_; rintro e w5 ⟨A1, c1, rfl, hd5, hb5⟩; have HD5 := Lib.hid hd5; have HB5 := Lib.hid hb5; clear hd5 hb5)
  have LA5 := Lib.hid (LA4.out.later HB5.out)
  have SP5 := Lib.hid (SP4.out.later HB5.out)
  have BF5 := Lib.hid (show DefsAt w5 (p.safe w5) A1 Lb.length Lb from HD5.out.keep (fun _ _ _ => rfl) (fun b hb => ⟨hb.2, fun e => by have := SP4.out.lt e; have := hb.1; omega⟩))
  have HSV := Lib.hid (by obtain ⟨all, DV, DN, DS, h⟩ := SP5.out; exact setVerb_calls h s HS.out (by omega) (LA5.out.rep HX.out) HG.out (HT.out.up LA5.out.below LA5.out.below.size) : Calls Tryz.prog 9 #[.pointer (some ⟨p.s, 0, none⟩), .string s, x.val] w5 (SetPost p 600 σ s.data.toList (.verb t) (T.named s.data.toList 65 90 = true ∧ T.may t 3 = 0) w5))
  obtain ⟨q0, q1, q2, q3, q4, q5, qf⟩ := LA5.out.bx
  have hlt5 : w.heap.size < w5.heap.size := by have := LA5.out.by_.lt; omega
  clear HD5 HB5 HLC LA4 SP4
  unfold TV.val TV.cells SetPost at HSV
  go_upto_region 8 with (go_at_call 9; refine HSV.out.mono ?_; rintro e w6 ⟨r1, rfl, ht6, hc6⟩; have HT6 := Lib.hid ht6; have HC6 := Lib.hid hc6; clear ht6 hc6 q0 q1 q2 q3 q4 q5 qf hlt5)
  have LA6 := Lib.hid (LA5.out.turn HT6.out)
  have BF6 := Lib.hid (BF5.out.keep (w' := w6) HT6.out.cell HT6.out.safe)
  clear BF5
  rcases HC6.out with ⟨rfl, ⟨hnm, hmay⟩, hsp6⟩ | ⟨hr1, hsp6⟩
  · have hkput : (σ.put s.data.toList (.verb t)) s.data.toList = some (.verb t) := by unfold Names.put; simp
    have HSG := Lib.hid (show ∀ j, ((σ.put s.data.toList (.verb t)).drop s.data.toList) j = if j = s.data.toList then none else σ j from fun j => by unfold Names.drop Names.put; split <;> rfl)
    have HSS := Lib.hid (show ((σ.put s.data.toList (.verb t)) s.data.toList).isSome = true from by rw [hkput]; rfl)
    have SP6 := Lib.hid hsp6
    have HVC := Lib.hid (verb_yes hsp6 s HS.out hkput)
    have HMAY := Lib.hid hmay
    clear hsp6 hmay hnm hkput
    go_upto_region 9 with (go_at_call 10; refine HVC.out.mono ?_; rintro e w7 ⟨hb7, z, rfl, hz⟩; have HB7 := Lib.hid hb7; have HZ := Lib.hid hz; clear hb7 hz; simp only [TV.val, TV.cells])
    generalize hW8 : World.alloc w7 _ = w8
    have hb78 : Below w7.heap.size w7 w8 := hW8 ▸ (Below.refl _ _).alloc (Nat.le_refl _) _
    have BZ8 := Lib.hid (show Box w8 w7.heap.size z from hW8 ▸ Box.new w7 z 29)
    have hz78 : w8.heap.size = w7.heap.size + 1 := hW8 ▸ by simp
    have hb68 := HB7.out.trans (hb78.mono HB7.out.size)
    have LA8 := Lib.hid (LA6.out.later hb68)
    have SP8 := Lib.hid (SP6.out.later hb68)
    have BF8 := Lib.hid (BF6.out.keep (w' := w8) (Turn.of_below hb68).cell (Turn.of_below hb68).safe)
    have hxr : Rep w8 w8.heap.size t x := RepS.rep SB.safe_lt t x (LA8.out.rep HX.out)
    have hzr : Rep w8 w8.heap.size t z := RepS.rep (S := fun b => b < w7.heap.size) (fun b hb => by omega) t z (RepS.keep (fun b o hb => hb78.cell (p := ⟨b, o, none⟩) hb) (fun _ h => h) t z (RepS.mono HZ.out (fun b hb => hb.2)))
    have HEQ := Lib.hid (eq14_all t z x w8.heap.size w8 hzr hxr (Nat.le_refl _))
    have HMC := Lib.hid (fun W (hb : Below w8.heap.size w8 W) => may_is HMAY.out (may_calls t x w8.heap.size 3 W (hxr.below hb (Nat.le_refl _)) hb.size))
    have HNE := Lib.hid (show w.heap.size ≠ w7.heap.size from by have h1 := LA6.out.by_.lt; have h2 := HB7.out.size; omega)
    obtain ⟨q0, q1, q2, q3, q4, q5, qf⟩ := LA8.out.bx
    obtain ⟨z0, z1, z2, z3, z4, z5, zf⟩ := BZ8.out
    have hlt8 : w.heap.size < w8.heap.size := by have := LA8.out.by_.lt; omega
    have hlt78 : w7.heap.size < w8.heap.size := by omega
    clear hW8 hb78 hz78 hb68 hxr hzr LA6 SP6 BF6 HVC
    unfold TV.val TV.cells EqPost14 at HEQ
    unfold TV.val TV.cells at HMC
    go_upto_region 11 with (first
      | (go_at_call 11; refine HEQ.out.mono ?_; rintro e w9 ⟨rfl, hb9⟩; have HB9 := Lib.hid hb9; have q0 := (hb9.cell (p := ⟨w.heap.size, 0, none⟩) hlt8).trans q0; have q1 := (hb9.cell (p := ⟨w.heap.size, 1, none⟩) hlt8).trans q1; have q2 := (hb9.cell (p := ⟨w.heap.size, 2, none⟩) hlt8).trans q2; have q3 := (hb9.cell (p := ⟨w.heap.size, 3, none⟩) hlt8).trans q3; have q4 := (hb9.cell (p := ⟨w.heap.size, 4, none⟩) hlt8).trans q4; have q5 := (hb9.cell (p := ⟨w.heap.size, 5, none⟩) hlt8).trans q5; have hm := HMC.out w9 hb9; clear hb9)
      | (go_at_call 12; refine hm.mono ?_; rintro e wA ⟨rfl, hbA⟩; have HBA := Lib.hid hbA; clear hbA hm q0 q1 q2 q3 q4 q5))
    have hb8A := HB9.out.trans (HBA.out.mono HB9.out.size)
    have LAA := Lib.hid (LA8.out.later hb8A)
    have SPA := Lib.hid (SP8.out.later hb8A)
    have BFA := Lib.hid (BF8.out.keep (w' := wA) (Turn.of_below hb8A).cell (Turn.of_below hb8A).safe)
    clear hb8A LA8 SP8 BF8 HB9 HBA HEQ HMC HNE z0 z1 z2 z3 z4 z5 zf hlt8 hlt78 BZ8 qf

    obtain ⟨L2, hli2⟩ := SPA.out.listIs
    have HLI2 := Lib.hid hli2
    have HLC2 := Lib.hid (hli2.calls SPA.out)
    unfold ListPost at HLC2
    clear hli2
    go_upto_region 19 with (go_at_call 8; refine HLC2.out.mono ?_; rintro e wf ⟨A2, c2, rfl, hdf, hbf⟩; have HBF := Lib.hid hbf; clear hdf hbf)
    have LAF := Lib.hid (LAA.out.later HBF.out)
    have SPF := Lib.hid (SPA.out.later HBF.out)
    have BFF := Lib.hid (BFA.out.keep (w' := wf) (Turn.of_below HBF.out).cell (Turn.of_below HBF.out).safe)
    have HD1 := Lib.hid (drop_yes SPF.out s HS.out HSS.out)
    clear HBF HLC2 HLI2
    go_upto_region 21 with (first
      | (go_at_call 18; refine HD1.out.mono ?_; rintro e wg ⟨rfl, htg, hspg⟩; have HTG := Lib.hid htg; have SPG := Lib.hid hspg; have hd2 := drop_no hspg s HS.out (by rw [HSG.out]; simp); clear htg hspg)
      | (go_at_call 18; refine hd2.mono ?_; rintro e wh ⟨rfl, he⟩; obtain rfl := he.symm; clear he hd2))
    have LAG := Lib.hid (LAF.out.turn HTG.out)
    have BFG := Lib.hid (BFF.out.keep (w' := wg) HTG.out.cell HTG.out.safe)
    have HVN := Lib.hid (verb_no SPG.out s HS.out (by rw [HSG.out]; simp))
    clear LAF BFF SPF HD1
    go_upto_region 22 with (go_at_call 10; refine HVN.out.mono ?_; rintro e wi ⟨rfl, hbi⟩; have HBI := Lib.hid hbi; clear hbi; simp only [TV.val, TV.cells, zeroTV])
    have LAI := Lib.hid (LAG.out.later HBI.out)
    have SPI := Lib.hid (SPG.out.later HBI.out)
    have BFI := Lib.hid (BFG.out.keep (w' := wi) (Turn.of_below HBI.out).cell (Turn.of_below HBI.out).safe)
    have HNN := Lib.hid (noun_no SPI.out s HS.out (by rw [HSG.out]; simp))
    clear LAG BFG SPG HVN HBI
    go_upto_region 23 with (go_at_call 14; refine HNN.out.mono ?_; rintro e wj ⟨rfl, hbj⟩; have HBJ := Lib.hid hbj; clear hbj; simp only [AV.val, AV.cells, zeroAV])
    generalize hWK : World.alloc wj _ = wk
    have hbjk : Below wj.heap.size wj wk := hWK ▸ (Below.refl _ _).alloc (Nat.le_refl _) _
    have hbik := HBJ.out.trans (hbjk.mono HBJ.out.size)
    have LAK := Lib.hid (LAI.out.later hbik)
    have SPK := Lib.hid (SPI.out.later hbik)
    have BFK := Lib.hid ((BFI.out.keep (w' := wk) (Turn.of_below hbik).cell (Turn.of_below hbik).safe).keep (S' := (· < wk.heap.size)) (fun _ _ _ => rfl) SB.safe_lt)
    clear hWK hbjk hbik LAI SPI BFI HNN HBJ
    have h0 : (0 : Int) ≤ (Lb.length : Int) := Int.natCast_nonneg _
    obtain ⟨i0, hi0, hz0, hz1, hz2⟩ := info_parts info_def
    have HI := Lib.hid (And.intro hi0 (And.intro hz0 (And.intro hz1 hz2)))
    clear hi0 hz0 hz1 hz2
    go_wp2_with fail
    go_loopw [19, 20] (fun v i wr => ∃ k : Nat, k ≤ Lb.length ∧ i = .int .i64 k ∧ RestRel wk Lb s.data.toList k v wr) (fun _ i _ => Lb.length - (intOf i).toNat)
    case atStart => exact ⟨0, Nat.zero_le _, rfl, RestRel.start _ _ _⟩
    case round =>
      obtain ⟨k, hk, rfl, hrel⟩ := hrel
      have HD := Lib.hid hrel
      have HB := Lib.hid hrel.2
      clear hrel
      have k0 : (0 : Int) ≤ (k : Int) := Int.natCast_nonneg _
      by_cases hlt : k < Lb.length
      · have k1 : (k : Int) < (Lb.length : Int) := Int.ofNat_lt.2 hlt
        have hkl := HLI.out.len
        have hw : wrap64 ((k : Int) + 1) = ((k + 1 : Nat) : Int) := wrap_succ (by omega)
        obtain ⟨r, hr⟩ : ∃ r, Lb[k]? = some r := ⟨Lb[k], by simp⟩
        have HR := Lib.hid hr
        obtain ⟨b1, o1, e1, hb1, hc1⟩ := (BFK.out.keep (w' := wr) (S' := (· < wk.heap.size)) (fun b o hb => cell_of_heap (HB.out.block b hb)) (fun _ h => h)).2 (by omega)
        obtain ⟨d, hd, hcell⟩ := hc1 k r hr
        obtain ⟨s', t', a'⟩ := d
        have n1 := cells9 hcell
        subst e1
        have HDS := Lib.hid hd
        have hss : s' = s ↔ r.k = s.data.toList := ⟨fun e => by rw [← hd.s, e], fun e => bytes_eq (hd.s.trans e)⟩
        obtain ⟨p0, p1, p2, p3, p4, p5, p6, p7, p8⟩ := n1.all
        simp only at p0 p1 p2 p3 p4 p5 p6 p7 p8
        clear hc1 hcell hd n1 hr hb1
        by_cases hkey : r.k = s.data.toList
        · have f1 : (!s'.toList == s.toList) = false := by rw [hss.2 hkey]; simp
          have HST := Lib.hid (HD.out.skip HR.out hkey)
          clear hss hkey
          go_wp2_with fail
          go_roundw
          case rel => exact ⟨k + 1, hlt, by go_num, HST.out⟩
          case measure => exact sm_meas (by first | exact Int.lt_succ _ | (rw [hw]; exact Int.lt_succ _)) k0 k1
        · have f1 : (!s'.toList == s.toList) = true := by rw [ByteArray.toList_eq, ByteArray.toList_eq, beq_eq_false_iff_ne.2 (fun e => hkey (hss.1 (bytes_eq e)))]; rfl
          have HKEY := Lib.hid hkey
          clear hss hkey
          obtain ⟨ds, g1, g2, g3⟩ := HD.out.1.row
          obtain ⟨m, hm⟩ : ∃ m, m = ((Lb.take k).filter fun r => decide (r.k ≠ s.data.toList)).length := ⟨_, rfl⟩
          have hml : m ≤ 100000 := by rw [hm]; exact Nat.le_trans (List.length_filter_le _ _) (Nat.le_trans (List.length_take_le' _ _) hkl)
          rw [← hm] at g1 g2
          have HM := Lib.hid hm
          have HGG := Lib.hid (And.intro g1 (And.intro g2 g3))
          have hown4 := row_alloc (o := .cells (DefV.cells ⟨s', t', a'⟩) 49) g1 (Below.refl wr.heap.size wr)
          have hbz := HB.out.size
          clear hm g1 g2 g3
          simp only [DefV.cells] at hown4
          obtain ⟨i1, i2, i3, i4⟩ := HI.out
          go_wp2_with (at_builtin; refine wpList_append_own_at _ rfl _ _ 22 rfl wk.heap.size 49 i0 _ 9 168 Tryz.underlying22 i1 i2 i3 i4 rfl (by decide) _ _ _ rfl hown4 ⟨wr.heap.size, 0, none⟩ 1 1 (DefV.cells ⟨s', t', a'⟩).toList rfl rfl (row_new wr _ _) (cells_one9 _) (by unfold maxLen; omega) (by omega) (by simp; omega) ?_; intro v' w5 hown' hgrow _ hloc; have HST := Lib.hid (HD.out.push HR.out HKEY.out HM.out HGG.out.1 HGG.out.2.1 HGG.out.2.2 HDS.out hown' hgrow); clear hown' hgrow hloc p0 p1 p2 p3 p4 p5 p6 p7 p8 hown4)
          go_roundw
          case rel => exact ⟨k + 1, hlt, by go_num, HST.out⟩
          case measure => exact sm_meas (by first | exact Int.lt_succ _ | (rw [hw]; exact Int.lt_succ _)) k0 k1
      · have k1 : ¬ (k : Int) < (Lb.length : Int) := by omega
        obtain rfl : k = Lb.length := by omega
        have SPR := Lib.hid (SPK.out.later HB.out)
        have hli3 := HLI.out.less SPR.out HSG.out
        have hend := HD.out.ends
        generalize Lb.filter (fun r => decide (r.k ≠ s.data.toList)) = Lr at hli3 hend
        have HLI3 := Lib.hid hli3
        obtain ⟨A3, c3, rfl, hd3⟩ := hend
        have HLC3 := Lib.hid (HLI3.out.calls SPR.out)
        have HED := Lib.hid (fun (A4 : Option Addr) (c4 : Nat) (W : World) (hdw : DefsAt W (fun b => wr.heap.size ≤ b ∧ b < W.heap.size) A4 Lr.length Lr) (hbw : Below wr.heap.size wr W) => eqDefs_calls (c1 := c4) (c2 := c3) (hdw.keep (S' := (· < W.heap.size)) (fun _ _ _ => rfl) (fun b hb => hb.2)) ((hd3.keep (w' := W) (fun b o hb => hbw.cell (p := ⟨b, o, none⟩) hb) (fun _ h => h)).keep (S' := (· < W.heap.size)) (fun _ _ _ => rfl) (fun b hb => Nat.lt_of_lt_of_le hb hbw.size)) (Nat.le_trans HLI3.out.len (by omega)))
        unfold ListPost at HLC3
        clear hd3 hli3
        go_wp2_with (first
          | (go_at_call 8; refine HLC3.out.mono ?_; rintro e wf ⟨A4, c4, rfl, hdf, hbf⟩; have HBF := Lib.hid hbf; have hed := HED.out A4 c4 wf hdf hbf; unfold EqPost14 at hed; clear hdf hbf)
          | (go_at_call 17; refine hed.mono ?_; rintro e wg ⟨rfl, hbg⟩; have HBG := Lib.hid hbg; clear hbg hed))
        go_ret
        have hkr := LAK.out.below.trans (HB.out.mono LAK.out.below.size)
        have hkf := hkr.trans (HBF.out.mono hkr.size)
        exact ⟨rfl, hkf.trans (HBG.out.mono hkf.size)⟩
  · have SP6 := Lib.hid hsp6
    have HVC := Lib.hid (verbN_any hsp6 s HS.out)
    have f0 : (r1 == 0) = false := by simpa using hr1
    have HR1 := Lib.hid hr1
    clear hsp6 hr1
    go_upto_region 9 with (go_at_call 10; refine HVC.out.mono ?_; rintro e w7 ⟨z, fz, rfl, hb7⟩; have HB7 := Lib.hid hb7; clear hb7; simp only [TV.val, TV.cells])
    generalize hW8 : World.alloc w7 _ = w8
    have hb78 : Below w7.heap.size w7 w8 := hW8 ▸ (Below.refl _ _).alloc (Nat.le_refl _) _
    have hb68 := HB7.out.trans (hb78.mono HB7.out.size)
    have LA8 := Lib.hid (LA6.out.later hb68)
    have SP8 := Lib.hid (SP6.out.later hb68)
    have BF8 := Lib.hid (BF6.out.keep (w' := w8) (Turn.of_below hb68).cell (Turn.of_below hb68).safe)
    clear hW8 hb78 hb68 LA6 SP6 BF6 HVC HB7
    by_cases h1 : r1 = 1
    · subst h1
      have HSN := Lib.hid (by obtain ⟨all, DV, DN, DS, h⟩ := SP8.out; exact setNoun_calls h s HS.out (by omega) (LA8.out.arep HY.out) HRS.out HRA.out (HT.out.up LA8.out.below LA8.out.below.size) : Calls Tryz.prog 13 #[.pointer (some ⟨p.s, 0, none⟩), .string s, y.val] w8 (SetPost p (600 + 1) σ s.data.toList (.noun sh a) (T.named s.data.toList 97 122 = true ∧ amay sh a.length = 0) w8))
      obtain ⟨n0, n1⟩ := (show Boxd w8 (w.heap.size + 1) #[.slice y.sa y.sl y.sc, .slice y.aa y.al y.ac] from LA8.out.by_).two
      have hlt8 := LA8.out.by_.lt
      unfold AV.val AV.cells SetPost at HSN
      go_upto_region 13 with (go_at_call 13; refine HSN.out.mono ?_; rintro e w9 ⟨r2, rfl, ht9, hc9⟩; have HT9 := Lib.hid ht9; have HC9 := Lib.hid hc9; clear ht9 hc9 n0 n1 hlt8)
      have LA9 := Lib.hid (LA8.out.turn HT9.out)
      have BF9 := Lib.hid (BF8.out.keep (w' := w9) HT9.out.cell HT9.out.safe)
      clear BF8 SP8 HSN
      rcases HC9.out with ⟨rfl, ⟨hnm, hmay⟩, hsp9⟩ | ⟨hr2, hsp9⟩
      · have hkput : (σ.put s.data.toList (.noun sh a)) s.data.toList = some (.noun sh a) := by unfold Names.put; simp
        have HSG := Lib.hid (show ∀ j, ((σ.put s.data.toList (.noun sh a)).drop s.data.toList) j = if j = s.data.toList then none else σ j from fun j => by unfold Names.drop Names.put; split <;> rfl)
        have HSS := Lib.hid (show ((σ.put s.data.toList (.noun sh a)) s.data.toList).isSome = true from by rw [hkput]; rfl)
        have SP9 := Lib.hid hsp9
        have HNC := Lib.hid (noun_yes hsp9 s HS.out hkput)
        have HMAY := Lib.hid hmay
        clear hsp9 hmay hnm hkput
        go_upto_region 14 with (go_at_call 14; refine HNC.out.mono ?_; rintro e wm ⟨hbm, z, rfl, hz⟩; have HBM := Lib.hid hbm; have HZ := Lib.hid hz; clear hbm hz; simp only [AV.val, AV.cells])
        generalize hWn : World.alloc wm _ = wn
        have hbmn : Below wm.heap.size wm wn := hWn ▸ (Below.refl _ _).alloc (Nat.le_refl _) _
        have BZN := Lib.hid (show Boxd wn wm.heap.size #[.slice z.sa z.sl z.sc, .slice z.aa z.al z.ac] from hWn ▸ Boxd.new wm _ _)
        have hzmn : wn.heap.size = wm.heap.size + 1 := hWn ▸ by simp
        have hb9n := HBM.out.trans (hbmn.mono HBM.out.size)
        have LAN := Lib.hid (LA9.out.later hb9n)
        have SPN' := Lib.hid (SP9.out.later hb9n)
        have BFN := Lib.hid (BF9.out.keep (w' := wn) (Turn.of_below hb9n).cell (Turn.of_below hb9n).safe)
        have hyS := LAN.out.arep HY.out
        have hyr : ARep wn wn.heap.size sh a y := hyS.rep SB.safe_lt
        have hzS : ARepS wn (fun b => b < wm.heap.size) sh a z := HZ.out.keep (fun b o hb => hbmn.cell (p := ⟨b, o, none⟩) hb.2) (fun b hb => hb.2)
        have hzr : ARep wn wn.heap.size sh a z := hzS.rep (fun b hb => by omega)
        have HEQ := Lib.hid (eqArr_calls hzr hyr hzS.s3 hzS.a3 (Nat.le_refl _))
        have HMC := Lib.hid (fun W (hb : Below wn.heap.size wn W) => amay_is HMAY.out (amay_calls (B := wn.heap.size) (w := W) ((hyS.keep (w' := W) (S' := (· < wn.heap.size)) (Turn.of_below hb).cell SB.safe_lt).rep (fun _ h => h)) hyS.s3 hb.size))
        have HNE := Lib.hid (show w.heap.size + 1 ≠ wm.heap.size from by have h1 := LA9.out.by_.lt; have h2 := HBM.out.size; omega)
        obtain ⟨n0, n1⟩ := (show Boxd wn (w.heap.size + 1) #[.slice y.sa y.sl y.sc, .slice y.aa y.al y.ac] from LAN.out.by_).two
        obtain ⟨z0, z1⟩ := BZN.out.two
        have hltn := LAN.out.by_.lt
        have hltmn : wm.heap.size < wn.heap.size := by omega
        clear hWn hbmn hzmn hb9n hyr hzr hyS hzS LA9 SP9 BF9 HNC
        unfold AV.val AV.cells EqPost14 at HEQ
        unfold AV.val AV.cells at HMC
        go_upto_region 16 with (first
          | (go_at_call 15; refine HEQ.out.mono ?_; rintro e wo ⟨rfl, hbo⟩; have HBO := Lib.hid hbo; have n0 := (hbo.cell (p := ⟨w.heap.size + 1, 0, none⟩) hltn).trans n0; have n1 := (hbo.cell (p := ⟨w.heap.size + 1, 1, none⟩) hltn).trans n1; have hm := HMC.out wo hbo; clear hbo)
          | (go_at_call 16; refine hm.mono ?_; rintro e wA ⟨rfl, hbA⟩; have HBA := Lib.hid hbA; clear hbA hm n0 n1))
        have hbnA := HBO.out.trans (HBA.out.mono HBO.out.size)
        have LAA := Lib.hid (LAN.out.later hbnA)
        have SPA := Lib.hid (SPN'.out.later hbnA)
        have BFA := Lib.hid (BFN.out.keep (w' := wA) (Turn.of_below hbnA).cell (Turn.of_below hbnA).safe)
        clear hbnA LAN SPN' BFN HBO HBA HEQ HMC HNE z0 z1 hltn hltmn BZN

        obtain ⟨L2, hli2⟩ := SPA.out.listIs
        have HLI2 := Lib.hid hli2
        have HLC2 := Lib.hid (hli2.calls SPA.out)
        unfold ListPost at HLC2
        clear hli2
        go_upto_region 19 with (go_at_call 8; refine HLC2.out.mono ?_; rintro e wf ⟨A2, c2, rfl, hdf, hbf⟩; have HBF := Lib.hid hbf; clear hdf hbf)
        have LAF := Lib.hid (LAA.out.later HBF.out)
        have SPF := Lib.hid (SPA.out.later HBF.out)
        have BFF := Lib.hid (BFA.out.keep (w' := wf) (Turn.of_below HBF.out).cell (Turn.of_below HBF.out).safe)
        have HD1 := Lib.hid (drop_yes SPF.out s HS.out HSS.out)
        clear HBF HLC2 HLI2
        go_upto_region 21 with (first
          | (go_at_call 18; refine HD1.out.mono ?_; rintro e wg ⟨rfl, htg, hspg⟩; have HTG := Lib.hid htg; have SPG := Lib.hid hspg; have hd2 := drop_no hspg s HS.out (by rw [HSG.out]; simp); clear htg hspg)
          | (go_at_call 18; refine hd2.mono ?_; rintro e wh ⟨rfl, he⟩; obtain rfl := he.symm; clear he hd2))
        have LAG := Lib.hid (LAF.out.turn HTG.out)
        have BFG := Lib.hid (BFF.out.keep (w' := wg) HTG.out.cell HTG.out.safe)
        have HVN := Lib.hid (verb_no SPG.out s HS.out (by rw [HSG.out]; simp))
        clear LAF BFF SPF HD1
        go_upto_region 22 with (go_at_call 10; refine HVN.out.mono ?_; rintro e wi ⟨rfl, hbi⟩; have HBI := Lib.hid hbi; clear hbi; simp only [TV.val, TV.cells, zeroTV])
        have LAI := Lib.hid (LAG.out.later HBI.out)
        have SPI := Lib.hid (SPG.out.later HBI.out)
        have BFI := Lib.hid (BFG.out.keep (w' := wi) (Turn.of_below HBI.out).cell (Turn.of_below HBI.out).safe)
        have HNN := Lib.hid (noun_no SPI.out s HS.out (by rw [HSG.out]; simp))
        clear LAG BFG SPG HVN HBI
        go_upto_region 23 with (go_at_call 14; refine HNN.out.mono ?_; rintro e wj ⟨rfl, hbj⟩; have HBJ := Lib.hid hbj; clear hbj; simp only [AV.val, AV.cells, zeroAV])
        generalize hWK : World.alloc wj _ = wk
        have hbjk : Below wj.heap.size wj wk := hWK ▸ (Below.refl _ _).alloc (Nat.le_refl _) _
        have hbik := HBJ.out.trans (hbjk.mono HBJ.out.size)
        have LAK := Lib.hid (LAI.out.later hbik)
        have SPK := Lib.hid (SPI.out.later hbik)
        have BFK := Lib.hid ((BFI.out.keep (w' := wk) (Turn.of_below hbik).cell (Turn.of_below hbik).safe).keep (S' := (· < wk.heap.size)) (fun _ _ _ => rfl) SB.safe_lt)
        clear hWK hbjk hbik LAI SPI BFI HNN HBJ
        have h0 : (0 : Int) ≤ (Lb.length : Int) := Int.natCast_nonneg _
        obtain ⟨i0, hi0, hz0, hz1, hz2⟩ := info_parts info_def
        have HI := Lib.hid (And.intro hi0 (And.intro hz0 (And.intro hz1 hz2)))
        clear hi0 hz0 hz1 hz2
        go_wp2_with fail
        go_loopw [19, 20] (fun v i wr => ∃ k : Nat, k ≤ Lb.length ∧ i = .int .i64 k ∧ RestRel wk Lb s.data.toList k v wr) (fun _ i _ => Lb.length - (intOf i).toNat)
        case atStart => exact ⟨0, Nat.zero_le _, rfl, RestRel.start _ _ _⟩
        case round =>
          obtain ⟨k, hk, rfl, hrel⟩ := hrel
          have HD := Lib.hid hrel
          have HB := Lib.hid hrel.2
          clear hrel
          have k0 : (0 : Int) ≤ (k : Int) := Int.natCast_nonneg _
          by_cases hlt : k < Lb.length
          · have k1 : (k : Int) < (Lb.length : Int) := Int.ofNat_lt.2 hlt
            have hkl := HLI.out.len
            have hw : wrap64 ((k : Int) + 1) = ((k + 1 : Nat) : Int) := wrap_succ (by omega)
            obtain ⟨r, hr⟩ : ∃ r, Lb[k]? = some r := ⟨Lb[k], by simp⟩
            have HR := Lib.hid hr
            obtain ⟨b1, o1, e1, hb1, hc1⟩ := (BFK.out.keep (w' := wr) (S' := (· < wk.heap.size)) (fun b o hb => cell_of_heap (HB.out.block b hb)) (fun _ h => h)).2 (by omega)
            obtain ⟨d, hd, hcell⟩ := hc1 k r hr
            obtain ⟨s', t', a'⟩ := d
            have n1 := cells9 hcell
            subst e1
            have HDS := Lib.hid hd
            have hss : s' = s ↔ r.k = s.data.toList := ⟨fun e => by rw [← hd.s, e], fun e => bytes_eq (hd.s.trans e)⟩
            obtain ⟨p0, p1, p2, p3, p4, p5, p6, p7, p8⟩ := n1.all
            simp only at p0 p1 p2 p3 p4 p5 p6 p7 p8
            clear hc1 hcell hd n1 hr hb1
            by_cases hkey : r.k = s.data.toList
            · have f1 : (!s'.toList == s.toList) = false := by rw [hss.2 hkey]; simp
              have HST := Lib.hid (HD.out.skip HR.out hkey)
              clear hss hkey
              go_wp2_with fail
              go_roundw
              case rel => exact ⟨k + 1, hlt, by go_num, HST.out⟩
              case measure => exact sm_meas (by first | exact Int.lt_succ _ | (rw [hw]; exact Int.lt_succ _)) k0 k1
            · have f1 : (!s'.toList == s.toList) = true := by rw [ByteArray.toList_eq, ByteArray.toList_eq, beq_eq_false_iff_ne.2 (fun e => hkey (hss.1 (bytes_eq e)))]; rfl
              have HKEY := Lib.hid hkey
              clear hss hkey
              obtain ⟨ds, g1, g2, g3⟩ := HD.out.1.row
              obtain ⟨m, hm⟩ : ∃ m, m = ((Lb.take k).filter fun r => decide (r.k ≠ s.data.toList)).length := ⟨_, rfl⟩
              have hml : m ≤ 100000 := by rw [hm]; exact Nat.le_trans (List.length_filter_le _ _) (Nat.le_trans (List.length_take_le' _ _) hkl)
              rw [← hm] at g1 g2
              have HM := Lib.hid hm
              have HGG := Lib.hid (And.intro g1 (And.intro g2 g3))
              have hown4 := row_alloc (o := .cells (DefV.cells ⟨s', t', a'⟩) 49) g1 (Below.refl wr.heap.size wr)
              have hbz := HB.out.size
              clear hm g1 g2 g3
              simp only [DefV.cells] at hown4
              obtain ⟨i1, i2, i3, i4⟩ := HI.out
              go_wp2_with (at_builtin; refine wpList_append_own_at _ rfl _ _ 22 rfl wk.heap.size 49 i0 _ 9 168 Tryz.underlying22 i1 i2 i3 i4 rfl (by decide) _ _ _ rfl hown4 ⟨wr.heap.size, 0, none⟩ 1 1 (DefV.cells ⟨s', t', a'⟩).toList rfl rfl (row_new wr _ _) (cells_one9 _) (by unfold maxLen; omega) (by omega) (by simp; omega) ?_; intro v' w5 hown' hgrow _ hloc; have HST := Lib.hid (HD.out.push HR.out HKEY.out HM.out HGG.out.1 HGG.out.2.1 HGG.out.2.2 HDS.out hown' hgrow); clear hown' hgrow hloc p0 p1 p2 p3 p4 p5 p6 p7 p8 hown4)
              go_roundw
              case rel => exact ⟨k + 1, hlt, by go_num, HST.out⟩
              case measure => exact sm_meas (by first | exact Int.lt_succ _ | (rw [hw]; exact Int.lt_succ _)) k0 k1
          · have k1 : ¬ (k : Int) < (Lb.length : Int) := by omega
            obtain rfl : k = Lb.length := by omega
            have SPR := Lib.hid (SPK.out.later HB.out)
            have hli3 := HLI.out.less SPR.out HSG.out
            have hend := HD.out.ends
            generalize Lb.filter (fun r => decide (r.k ≠ s.data.toList)) = Lr at hli3 hend
            have HLI3 := Lib.hid hli3
            obtain ⟨A3, c3, rfl, hd3⟩ := hend
            have HLC3 := Lib.hid (HLI3.out.calls SPR.out)
            have HED := Lib.hid (fun (A4 : Option Addr) (c4 : Nat) (W : World) (hdw : DefsAt W (fun b => wr.heap.size ≤ b ∧ b < W.heap.size) A4 Lr.length Lr) (hbw : Below wr.heap.size wr W) => eqDefs_calls (c1 := c4) (c2 := c3) (hdw.keep (S' := (· < W.heap.size)) (fun _ _ _ => rfl) (fun b hb => hb.2)) ((hd3.keep (w' := W) (fun b o hb => hbw.cell (p := ⟨b, o, none⟩) hb) (fun _ h => h)).keep (S' := (· < W.heap.size)) (fun _ _ _ => rfl) (fun b hb => Nat.lt_of_lt_of_le hb hbw.size)) (Nat.le_trans HLI3.out.len (by omega)))
            unfold ListPost at HLC3
            clear hd3 hli3
            go_wp2_with (first
              | (go_at_call 8; refine HLC3.out.mono ?_; rintro e wf ⟨A4, c4, rfl, hdf, hbf⟩; have HBF := Lib.hid hbf; have hed := HED.out A4 c4 wf hdf hbf; unfold EqPost14 at hed; clear hdf hbf)
              | (go_at_call 17; refine hed.mono ?_; rintro e wg ⟨rfl, hbg⟩; have HBG := Lib.hid hbg; clear hbg hed))
            go_ret
            have hkr := LAK.out.below.trans (HB.out.mono LAK.out.below.size)
            have hkf := hkr.trans (HBF.out.mono hkr.size)
            exact ⟨rfl, hkf.trans (HBG.out.mono hkf.size)⟩
      · have SP9 := Lib.hid hsp9
        have HNC := Lib.hid (nounN_any hsp9 s HS.out)
        have f2 : (r2 == 0) = false := by simpa using hr2
        have f3 : (r2 != 0) = true := by simpa using hr2
        clear hsp9 hr2
        go_upto_region 14 with (go_at_call 14; refine HNC.out.mono ?_; rintro e wm ⟨z, fz', rfl, hbm⟩; have HBM := Lib.hid hbm; clear hbm; simp only [AV.val, AV.cells])
        generalize hWn : World.alloc wm _ = wn
        have hbmn : Below wm.heap.size wm wn := hWn ▸ (Below.refl _ _).alloc (Nat.le_refl _) _
        have hb9n := HBM.out.trans (hbmn.mono HBM.out.size)
        have LAN := Lib.hid (LA9.out.later hb9n)
        have SPN' := Lib.hid (SP9.out.later hb9n)
        have BFN := Lib.hid (BF9.out.keep (w' := wn) (Turn.of_below hb9n).cell (Turn.of_below hb9n).safe)
        clear hWn hbmn hb9n LA9 SP9 BF9 HNC HBM

        have HLC2 := Lib.hid (HLI.out.calls SPN'.out)
        unfold ListPost at HLC2
        go_upto_region 18 with (go_at_call 8; refine HLC2.out.mono ?_; rintro e wf ⟨A2, c2, rfl, hdf, hbf⟩; have HDF := Lib.hid hdf; have HBF := Lib.hid hbf; clear hdf hbf)
        have HED := Lib.hid (eqDefs_calls (c1 := c1) (c2 := c2) ((BFN.out.keep (w' := wf) (Turn.of_below HBF.out).cell (Turn.of_below HBF.out).safe).keep (S' := (· < wf.heap.size)) (fun _ _ _ => rfl) SB.safe_lt) (HDF.out.keep (S' := (· < wf.heap.size)) (fun _ _ _ => rfl) (fun b hb => hb.2)) (Nat.le_trans HLI.out.len (by omega)))
        unfold EqPost14 at HED
        go_wp2_with (go_at_call 17; refine HED.out.mono ?_; rintro e wg ⟨rfl, hbg⟩; have HBG := Lib.hid hbg; clear hbg)
        go_ret
        exact ⟨rfl, (LAN.out.below.trans (HBF.out.mono LAN.out.below.size)).trans (HBG.out.mono (Nat.le_trans LAN.out.below.size HBF.out.size))⟩
    · have f2 : (r1 == 1) = false := by simpa using h1
      have f3 : (r1 != 0) = true := by simpa using HR1.out
      clear h1

      have HLC2 := Lib.hid (HLI.out.calls SP8.out)
      unfold ListPost at HLC2
      go_upto_region 18 with (go_at_call 8; refine HLC2.out.mono ?_; rintro e wf ⟨A2, c2, rfl, hdf, hbf⟩; have HDF := Lib.hid hdf; have HBF := Lib.hid hbf; clear hdf hbf)
      have HED := Lib.hid (eqDefs_calls (c1 := c1) (c2 := c2) ((BF8.out.keep (w' := wf) (Turn.of_below HBF.out).cell (Turn.of_below HBF.out).safe).keep (S' := (· < wf.heap.size)) (fun _ _ _ => rfl) SB.safe_lt) (HDF.out.keep (S' := (· < wf.heap.size)) (fun _ _ _ => rfl) (fun b hb => hb.2)) (Nat.le_trans HLI.out.len (by omega)))
      unfold EqPost14 at HED
      go_wp2_with (go_at_call 17; refine HED.out.mono ?_; rintro e wg ⟨rfl, hbg⟩; have HBG := Lib.hid hbg; clear hbg)
      go_ret
      exact ⟨rfl, (LA8.out.below.trans (HBF.out.mono LA8.out.below.size)).trans (HBG.out.mono (Nat.le_trans LA8.out.below.size HBF.out.size))⟩
end Go.Proofs.YtboondbognbnnaaGreatDoor
