/- Package space: Verb, Noun. Package space: Noun, Drop. -/
import Derived.Test.YtboondbognbnnaaGreatDoorQSB
set_option linter.unusedVariables false
set_option linter.unusedSimpArgs false
namespace Go.Proofs.YtboondbognbnnaaGreatDoor
open Go.RowKit Go.WideMaps
theorem zero_term (w : World) : (zeroValue 29).run Tryz.prog w = .ok zeroTV.val w := by kernel_rfl
def zeroAV : AV := ⟨none, 0, 0, none, 0, 0⟩
theorem zero_arr (w : World) : (zeroValue 26).run Tryz.prog w = .ok zeroAV.val w := by kernel_rfl
/-- a block of zeros for the result, a block for what was found -/
theorem two_boxes (w : World) (x : TV) (w2 : World) (h : (w.alloc (.cells zeroTV.cells 29)).alloc (.cells x.cells 29) = w2) : Below w.heap.size w w2 ∧ Box w2 w.heap.size zeroTV ∧ Box w2 (w.heap.size + 1) x ∧ w2.heap.size = w.heap.size + 2 := by
  subst h
  refine ⟨by go_grown, (Box.new w zeroTV _).alloc _, ?_, by simp⟩
  have := Box.new (w.alloc (.cells zeroTV.cells 29)) x 29
  simpa using this
/-- what Verb answers -/
def VerbPost (σ : Names) (k : List UInt8) (w : World) (e : Ending) (w' : World) : Prop :=
  Below w.heap.size w w' ∧ match σ k with
    | some (.verb t) => ∃ y, e = .returned (.tuple #[TV.val y, .int .i64 0]) ∧ RepS w' (fun b => w.heap.size ≤ b ∧ b < w'.heap.size) t y
    | _ => e = .returned (.tuple #[zeroTV.val, .int .i64 15])
set_option maxRecDepth 100000 in
set_option maxHeartbeats 2000000 in
theorem verb_calls {p : SB} {w : World} {all : Int} {DV DN DS : DataW Value} {n : Nat} {σ : Names} (h : Sp p w all DV DN DS n σ) (s : ByteArray) (hs : s.size ≤ 140737488355328) :
    Calls Tryz.prog 10 #[.pointer (some ⟨p.s, 0, none⟩), .string s] w (VerbPost σ s.data.toList w) := by
  have hb0 := (Below.refl w.heap.size w).alloc (Nat.le_refl _) (.cells zeroTV.cells 29)
  have hr0 := Box.new w zeroTV 29
  obtain ⟨c0, c1, c2, c3⟩ := (h.box.later hb0).four
  have hown := h.v.alloc (.cells zeroTV.cells 29)
  have hkey := key_mk hs
  have HB0 := Lib.hid hb0
  have HR0 := Lib.hid hr0
  unfold zeroTV TV.cells at hown
  unfold TV.cells at c0 c1 c2 c3
  unfold zeroTV at c0 c1 c2 c3
  clear hb0 hr0
  by_cases hh : ∃ t, σ s.data.toList = some (.verb t)
  · obtain ⟨t, ht⟩ := hh
    obtain ⟨_, _, hhas, hfits, _, x, hat, hrep⟩ := h.at_ _ _ ht
    have hr := RepS.rep SB.safe_lt t x hrep
    have HC := Lib.hid (fun W (hb : Below w.heap.size w W) => copy_calls t x w.heap.size W (hr.below hb (Nat.le_refl _)) hb.size hfits)
    have HT := Lib.hid ht
    have hat' := hat (.held zeroTV.val)
    have HA := Lib.hid hat'
    clear hat hat' hrep hr ht hfits h
    unfold VerbPost
    rw [HT.out]
    unfold TV.val at HC
    unfold TV.cells at HC
    go_enter Tryz.func10, Tryz.ntmps10
    go_upto_region 2 with (at_lookup; refine wpList_lookup_own_ok _ rfl _ _ 65 rfl 9 29 law_string Tryz.underlying65 RV (zero_term _) (.held zeroTV.val) [] rfl p.mv n DV rfl hown _ _ rfl hkey ?_; intro v ps hv; obtain rfl := val_of hv HA.out; clear hv; rw [hhas]; simp only [TV.val, TV.cells])
    generalize hW : World.alloc (World.alloc w _) _ = w2
    obtain ⟨hb2, hr2, hx2, hz2⟩ := two_boxes w x w2 hW
    have HB2 := Lib.hid hb2
    have HR2 := Lib.hid hr2
    have HZ2 := Lib.hid hz2
    obtain ⟨k0, k1, k2, k3, k4, k5, kf⟩ := hx2
    clear hW hb2 hr2 hz2 c0 c1 c2 c3 hown hkey
    go_wp2_with (go_at_call 29; refine (HC.out _ HB2.out).mono ?_; rintro e w3 ⟨y, F, rfl, hO, hF, hb3⟩; have HB3 := Lib.hid hb3; have HO := Lib.hid hO; have HF := Lib.hid hF; have HR3 := Lib.hid (HR2.out.below hb3 (by have := HZ2.out; omega)); clear hb3 hO hF k0 k1 k2 k3 k4 k5 kf; obtain ⟨r0, r1, r2, r3, r4, r5, rf⟩ := HR3.out; simp only [zeroTV] at r0 r1 r2 r3 r4 r5; simp only [TV.val, TV.cells])
    refine bodyPost_ret (v := .tuple #[y.val, .int .i64 0]) (by simp [results, Tryz.results10, TV.val, TV.cells, r0, r1, r2, r3, r4, r5, rf, go_sem]) rfl ?_
    have hz := HZ2.out
    have hz3 := HB3.out.size
    refine ⟨?_, y, rfl, RepS.keep (w := w3) (S := fun b => w2.heap.size ≤ b ∧ b < w3.heap.size) (fun b o hb => cell_of_heap ?_) (fun b hb => ?_) t y (Own.repS t y F HO.out (fun b hb => ⟨HF.out.lo b hb, HF.out.hi b hb⟩))⟩
    · iterate 6 (refine Below.setCell ?_ (by simp) _)
      exact HB2.out.trans (HB3.out.mono (by omega))
    · have hbr : b ≠ w.heap.size := by have := hb.1; omega
      iterate 6 (refine (Below.heap_setCell _ _ _ _ hbr).trans ?_)
      rfl
    · simp only [World.setCell, Array.size_modify] at *
      have := hb.1
      have := hb.2
      exact ⟨by omega, by simpa using hb.2⟩
  · have hno : Maps.has DV (.string s.data.toList) = false := by
      cases hc : Maps.has DV (.string s.data.toList)
      · rfl
      · exact absurd (h.hv _ hc) hh
    have HA := Lib.hid (Maps.atKey_of_not_has hno (.held zeroTV.val))
    have HP := Lib.hid (show ∀ (e : Ending) (w' : World), Below w.heap.size w w' → e = .returned (.tuple #[zeroTV.val, .int .i64 15]) → VerbPost σ s.data.toList w e w' from fun e w' hb he => ⟨hb, by
      split
      · rename_i t ht
        exact absurd ⟨t, ht⟩ hh
      · exact he⟩)
    clear hh h
    go_enter Tryz.func10, Tryz.ntmps10
    go_wp2_with (at_lookup; refine wpList_lookup_own_ok _ rfl _ _ 65 rfl 9 29 law_string Tryz.underlying65 RV (zero_term _) (.held zeroTV.val) [] rfl p.mv n DV rfl hown _ _ rfl hkey ?_; intro v ps hv; obtain rfl := val_of hv HA.out; clear hv; rw [hno]; simp only [TV.val, TV.cells, zeroTV])
    refine bodyPost_ret (v := .tuple #[zeroTV.val, .int .i64 15]) (by simp [results, Tryz.results10, zeroTV, TV.val, TV.cells, go_sem]) rfl ?_
    exact HP.out _ _ (by go_grown) rfl
end Go.Proofs.YtboondbognbnnaaGreatDoor

namespace Go.Proofs.YtboondbognbnnaaGreatDoor
open Go.RowKit Go.WideMaps
theorem two_arrs (w : World) (x : AV) (w2 : World) (h : (w.alloc (.cells zeroAV.cells 26)).alloc (.cells x.cells 26) = w2) : Below w.heap.size w w2 ∧ Boxd w2 w.heap.size zeroAV.cells ∧ Boxd w2 (w.heap.size + 1) x.cells ∧ w2.heap.size = w.heap.size + 2 := by
  subst h
  refine ⟨by go_grown, (Boxd.new w zeroAV.cells _).later ((Below.refl _ _).alloc (Nat.le_refl _) _), ?_, by simp⟩
  have := Boxd.new (w.alloc (.cells zeroAV.cells 26)) x.cells 26
  simpa using this
/-- what Noun answers -/
def NounPost (σ : Names) (k : List UInt8) (w : World) (e : Ending) (w' : World) : Prop :=
  Below w.heap.size w w' ∧ match σ k with
    | some (.noun sh a) => ∃ y, e = .returned (.tuple #[AV.val y, .int .i64 0]) ∧ ARepS w' (fun b => w.heap.size ≤ b ∧ b < w'.heap.size) sh a y
    | _ => e = .returned (.tuple #[zeroAV.val, .int .i64 15])
set_option maxRecDepth 100000 in
set_option maxHeartbeats 2000000 in
theorem noun_calls {p : SB} {w : World} {all : Int} {DV DN DS : DataW Value} {n : Nat} {σ : Names} (h : Sp p w all DV DN DS n σ) (s : ByteArray) (hs : s.size ≤ 140737488355328) :
    Calls Tryz.prog 14 #[.pointer (some ⟨p.s, 0, none⟩), .string s] w (NounPost σ s.data.toList w) := by
  have hb0 := (Below.refl w.heap.size w).alloc (Nat.le_refl _) (.cells zeroAV.cells 26)
  obtain ⟨c0, c1, c2, c3⟩ := (h.box.later hb0).four
  have hown := h.nn.alloc (.cells zeroAV.cells 26)
  have hkey := key_mk hs
  have HB0 := Lib.hid hb0
  unfold zeroAV AV.cells at hown
  unfold AV.cells at c0 c1 c2 c3
  unfold zeroAV at c0 c1 c2 c3
  clear hb0
  by_cases hh : ∃ sh a, σ s.data.toList = some (.noun sh a)
  · obtain ⟨sh, a, ht⟩ := hh
    obtain ⟨_, _, hhas, x, hat, hrep⟩ := h.at_ _ _ ht
    have hr := hrep.rep SB.safe_lt
    have HC := Lib.hid (fun W (hb : Below w.heap.size w W) => twin_calls (hr.keep (Keeps.of_below hb (Nat.le_refl _))) hrep.s3 hrep.a3 hb.size)
    have HT := Lib.hid ht
    have hat' := hat (.held zeroAV.val)
    have HA := Lib.hid hat'
    clear hat hat' hrep hr ht h
    unfold NounPost
    rw [HT.out]
    unfold AV.val at HC
    unfold AV.cells at HC
    go_enter Tryz.func14, Tryz.ntmps14
    go_upto_region 2 with (at_lookup; refine wpList_lookup_own_ok _ rfl _ _ 66 rfl 9 26 law_string Tryz.underlying66 RV (zero_arr _) (.held zeroAV.val) [] rfl p.mn n DN rfl hown _ _ rfl hkey ?_; intro v ps hv; obtain rfl := val_of hv HA.out; clear hv; rw [hhas]; simp only [AV.val, AV.cells])
    generalize hW : World.alloc (World.alloc w _) _ = w2
    obtain ⟨hb2, hr2, hx2, hz2⟩ := two_arrs w x w2 hW
    have HB2 := Lib.hid hb2
    have HR2 := Lib.hid hr2
    have HZ2 := Lib.hid hz2
    unfold AV.cells at hx2
    obtain ⟨k0, k1⟩ := hx2.two
    have kf := hx2.fz 0
    clear hW hb2 hr2 hz2 c0 c1 c2 c3 hown hkey hx2
    go_wp2_with (go_at_call 36; refine (HC.out _ HB2.out).mono ?_; rintro e w3 ⟨y, rfl, hO, hb3⟩; have HB3 := Lib.hid hb3; have HO := Lib.hid hO; have HR3 := Lib.hid (HR2.out.later hb3); clear hb3 hO k0 k1 kf; obtain ⟨r0, r1⟩ := (show Boxd w3 w.heap.size #[.slice none 0 0, .slice none 0 0] from HR3.out).two; have rf := HR3.out.fz; simp only [AV.val, AV.cells])
    refine bodyPost_ret (v := .tuple #[y.val, .int .i64 0]) (by simp [results, Tryz.results14, AV.val, AV.cells, r0, r1, rf, go_sem]) rfl ?_
    have hz := HZ2.out
    have hz3 := HB3.out.size
    refine ⟨?_, y, rfl, HO.out.keep (fun b o hb => cell_of_heap ?_) (fun b hb => ?_)⟩
    · iterate 2 (refine Below.setCell ?_ (by simp) _)
      exact HB2.out.trans (HB3.out.mono (by omega))
    · have hbr : b ≠ w.heap.size := by have := hb.1; omega
      iterate 2 (refine (Below.heap_setCell _ _ _ _ hbr).trans ?_)
      rfl
    · have := hb.1
      exact ⟨by omega, by simpa [World.setCell] using hb.2⟩
  · have hno : Maps.has DN (.string s.data.toList) = false := by
      cases hc : Maps.has DN (.string s.data.toList)
      · rfl
      · exact absurd (h.hn _ hc) hh
    have HA := Lib.hid (Maps.atKey_of_not_has hno (.held zeroAV.val))
    have HP := Lib.hid (show ∀ (e : Ending) (w' : World), Below w.heap.size w w' → e = .returned (.tuple #[zeroAV.val, .int .i64 15]) → NounPost σ s.data.toList w e w' from fun e w' hb he => ⟨hb, by
      split
      · rename_i sh a ht
        exact absurd ⟨sh, a, ht⟩ hh
      · exact he⟩)
    clear hh h
    go_enter Tryz.func14, Tryz.ntmps14
    go_wp2_with (at_lookup; refine wpList_lookup_own_ok _ rfl _ _ 66 rfl 9 26 law_string Tryz.underlying66 RV (zero_arr _) (.held zeroAV.val) [] rfl p.mn n DN rfl hown _ _ rfl hkey ?_; intro v ps hv; obtain rfl := val_of hv HA.out; clear hv; rw [hno]; simp only [AV.val, AV.cells, zeroAV])
    refine bodyPost_ret (v := .tuple #[zeroAV.val, .int .i64 15]) (by simp [results, Tryz.results14, zeroAV, AV.val, AV.cells, go_sem]) rfl ?_
    exact HP.out _ _ (by go_grown) rfl
/-! ### Drop -/
theorem turned_other {w w' : World} {b k : Nat} (h : w.mapTurned w' b) (hk : k < w.heap.size) (hne : k ≠ b) : w'.heap[k]? = w.heap[k]? := h.grown.block k hk (fun e => hne (Option.some.inj e))
theorem turned_size {w w' : World} {b : Nat} (h : w.mapTurned w' b) : w'.heap.size = w.heap.size := by
  obtain ⟨es, clock, es', clock', _, rfl⟩ := h
  simp [ChangeMaps.setBlock]
def Names.drop (σ : Names) (k : List UInt8) : Names := fun j => if j = k then none else σ j
def BoxAll (p : SB) (w : World) (all : Int) : Prop := Boxd w p.s #[.map (some p.mv), .map (some p.mn), .map (some p.ms), .int .i64 all]
theorem BoxAll.set {p : SB} {w : World} {all all' : Int} (h : BoxAll p w all) : BoxAll p (w.setCell ⟨p.s, 3, none⟩ (.int .i64 all')) all' := by
  obtain ⟨c0, c1, c2, c3⟩ := h.four
  refine ⟨fun j v hj => ?_, fun o => by simp [h.fz o], by simpa [World.setCell] using h.lt⟩
  match j, hj with
  | 0, hj => cases hj; exact (World.cell?_setCell_other _ _ _ _ (by simp)).trans c0
  | 1, hj => cases hj; exact (World.cell?_setCell_other _ _ _ _ (by simp)).trans c1
  | 2, hj => cases hj; exact (World.cell?_setCell_other _ _ _ _ (by simp)).trans c2
  | 3, hj => cases hj; exact World.cell?_setCell_same _ _ _ c3
  | j + 4, hj => simp at hj
theorem BoxAll.turned {p : SB} {w w' : World} {all : Int} {b : Nat} (h : BoxAll p w all) (ht : w.mapTurned w' b) (hne : p.s ≠ b) : BoxAll p w' all := h.kept (turned_other ht h.lt hne) (by rw [turned_size ht]; exact Nat.le_refl _)
theorem EntAt.dropped {w : World} {S : Nat → Prop} {DV DN : DataW Value} {j k : List UInt8} {e : Mng} (h : EntAt w S DV DN j e) (hne : j ≠ k) : EntAt w S (DV.del (.string k)) (DN.del (.string k)) j e := by
  have hn : (Lit.string j) ≠ .string k := fun e => hne (by injection e)
  cases e with
  | verb t =>
    obtain ⟨h1, h2, h3, h4, x, h5, h6⟩ := h
    exact ⟨h1, (Maps.has_del_other hn).trans h2, h3, h4, x, fun z => (Maps.atKey_del_other hn z).trans (h5 z), h6⟩
  | noun sh a =>
    obtain ⟨h1, h2, x, h5, h6⟩ := h
    exact ⟨h1, (Maps.has_del_other hn).trans h2, x, fun z => (Maps.atKey_del_other hn z).trans (h5 z), h6⟩
def DropPost (p : SB) (σ : Names) (k : List UInt8) (n : Nat) (DV DN DS : DataW Value) (w : World) (e : Ending) (w' : World) : Prop :=
  Turn p w w' ∧ if (σ k).isSome = true then e = .returned (.int .i64 0) ∧ ∃ all', Sp p w' all' (DV.del (.string k)) (DN.del (.string k)) (DS.del (.string k)) n (σ.drop k) else e = .returned (.int .i64 15) ∧ w' = w
theorem drop_done {p : SB} {w w2 w3 w4 : World} {all all' : Int} {DV DN DS : DataW Value} {n : Nat} {σ : Names} {k : List UInt8} (h : Sp p w all DV DN DS n σ)
    (o2 : HoldsM w2 p.ms n (DS.del (.string k))) (t2 : (w.setCell ⟨p.s, 3, none⟩ (.int .i64 all')).mapTurned w2 p.ms) (o3 : HoldsM w3 p.mv n (DV.del (.string k))) (t3 : w2.mapTurned w3 p.mv) (o4 : HoldsM w4 p.mn n (DN.del (.string k))) (t4 : w3.mapTurned w4 p.mn) (hs : (σ k).isSome = true) :
    DropPost p σ k n DV DN DS w (.returned (.int .i64 0)) w4 := by
  obtain ⟨s1, s2, s3⟩ := h.sv
  have z1 : (w.setCell ⟨p.s, 3, none⟩ (.int .i64 all')).heap.size = w.heap.size := by simp [World.setCell]
  have z2 := turned_size t2
  have z3 := turned_size t3
  have z4 := turned_size t4
  have hT : Turn p w w4 := (Turn.set w 3 _).trans ((Turn.of_grown t2.grown (fun g e => by cases e; exact .inr (.inr (.inr rfl)))).trans ((Turn.of_grown t3.grown (fun g e => by cases e; exact .inr (.inl rfl))).trans (Turn.of_grown t4.grown (fun g e => by cases e; exact .inr (.inr (.inl rfl))))))
  have hbox : BoxAll p w4 all' := (((show BoxAll p w all from h.box).set (all' := all')).turned t2 s3 |>.turned t3 s1).turned t4 s2
  refine ⟨hT, ?_⟩
  rw [if_pos hs]
  refine ⟨rfl, all', ⟨hbox, ?_, o4, ?_, h.le, h.vn, h.vs, h.ns, fun j e hj => ?_, fun j hj => ?_, fun j hj => ?_, fun j hj => ?_, fun j hj => ?_⟩⟩
  · exact o3.at (turned_other t4 o3.lt h.vn)
  · exact (o2.at (turned_other t3 o2.lt (Ne.symm h.vs))).at (turned_other t4 (by have := o2.lt; omega) (Ne.symm h.ns))
  · unfold Names.drop at hj
    split at hj
    · cases hj
    · rename_i hne
      obtain ⟨g1, g2⟩ := h.at_ j e hj
      exact ⟨(Maps.has_del_other (fun e => hne (by injection e))).trans g1, (g2.keep hT).dropped hne⟩
  · have hne : j ≠ k := by rintro rfl; rw [Maps.has_del_same] at hj; cases hj
    have hn : (Lit.string j) ≠ .string k := fun e => hne (by injection e)
    rw [Maps.has_del_other hn] at hj
    obtain ⟨i, hi⟩ := h.ints j hj
    exact ⟨i, fun z => (Maps.atKey_del_other hn z).trans (hi z)⟩
  · have hne : j ≠ k := by rintro rfl; rw [Maps.has_del_same] at hj; cases hj
    have hn : (Lit.string j) ≠ .string k := fun e => hne (by injection e)
    rw [Maps.has_del_other hn] at hj
    unfold Names.drop; rw [if_neg hne]; exact h.hs j hj
  · have hne : j ≠ k := by rintro rfl; rw [Maps.has_del_same] at hj; cases hj
    have hn : (Lit.string j) ≠ .string k := fun e => hne (by injection e)
    rw [Maps.has_del_other hn] at hj
    unfold Names.drop; rw [if_neg hne]; exact h.hv j hj
  · have hne : j ≠ k := by rintro rfl; rw [Maps.has_del_same] at hj; cases hj
    have hn : (Lit.string j) ≠ .string k := fun e => hne (by injection e)
    rw [Maps.has_del_other hn] at hj
    unfold Names.drop; rw [if_neg hne]; exact h.hn j hj
set_option maxRecDepth 100000 in
set_option maxHeartbeats 2000000 in
theorem drop_calls {p : SB} {w : World} {all : Int} {DV DN DS : DataW Value} {n : Nat} {σ : Names} (h : Sp p w all DV DN DS n σ) (s : ByteArray) (hs : s.size ≤ 140737488355328) :
    Calls Tryz.prog 18 #[.pointer (some ⟨p.s, 0, none⟩), .string s] w (DropPost p σ s.data.toList n DV DN DS w) := by
  obtain ⟨c0, c1, c2, c3⟩ := h.box.four
  have hf := h.box.fz 3
  obtain ⟨s1, s2, s3⟩ := h.sv
  have hkey := key_mk hs
  have HH := Lib.hid h
  have hown := h.s
  cases hh : Maps.has DS (.string s.data.toList)
  · have HA := Lib.hid (Maps.atKey_of_not_has hh (.held (.int .i64 0)))
    have hn : ¬ (σ s.data.toList).isSome = true := fun hc => by
      obtain ⟨e, he⟩ := Option.isSome_iff_exists.1 hc
      have := (h.at_ _ e he).1
      rw [hh] at this
      cases this
    have HP := Lib.hid (show DropPost p σ s.data.toList n DV DN DS w (.returned (.int .i64 15)) w from ⟨Turn.refl _ _, by rw [if_neg hn]; exact ⟨rfl, rfl⟩⟩)
    clear h hn
    go_enter Tryz.func18, Tryz.ntmps18
    go_wp2_with (at_lookup; refine wpList_lookup_own_ok _ rfl _ _ 64 rfl 9 3 law_string Tryz.underlying64 RV (zero_int _) (.held (.int .i64 0)) [] rfl p.ms n DS rfl hown _ _ rfl hkey ?_; intro v ps hv; obtain rfl := val_of hv HA.out; clear hv; rw [hh])
    go_ret
    exact HP.out
  · obtain ⟨old, hold⟩ := h.ints _ hh
    have HA := Lib.hid (hold (.held (.int .i64 0)))
    have HS := Lib.hid (h.hs _ hh)
    have HO1 := Lib.hid (fun all' : Int => show HoldsM (w.setCell ⟨p.s, 3, none⟩ (.int .i64 all')) p.ms n DS from h.s.at (Below.heap_setCell _ _ _ _ (Ne.symm s3)))
    have HX := Lib.hid (show BoxAll p w all from h.box)
    clear h hold
    go_enter Tryz.func18, Tryz.ntmps18
    go_upto_region 5 with (at_lookup; refine wpList_lookup_own_ok _ rfl _ _ 64 rfl 9 3 law_string Tryz.underlying64 RV (zero_int _) (.held (.int .i64 0)) [] rfl p.ms n DS rfl hown _ _ rfl hkey ?_; intro v ps hv; obtain rfl := val_of hv HA.out; clear hv; rw [hh])
    generalize hall : wrap64 (all - old) = all'
    have HX1 := Lib.hid (HX.out.set (all' := all'))
    have HW1 := Lib.hid (rfl : w.setCell ⟨p.s, 3, none⟩ (.int .i64 all') = w.setCell ⟨p.s, 3, none⟩ (.int .i64 all'))
    clear hall c0 c1 c2 c3 hf hown hh
    obtain ⟨c0, c1, c2, c3⟩ := HX1.out.four
    have hown := HO1.out all'
    go_upto_region 6 with (at_delete; refine wpList_delete_own _ rfl _ _ 64 9 rfl 3 law_string Tryz.underlying64 RV p.ms n DS rfl hown _ _ rfl hkey ?_; intro w2 hown2 hturn2; have O2 := Lib.hid hown2; have T2 := Lib.hid hturn2; have HX2 := Lib.hid (HX1.out.turned hturn2 s3); clear hown hown2 hturn2 c0 c1 c2 c3)
    obtain ⟨c0, c1, c2, c3⟩ := HX2.out.four
    have hown : HoldsM w2 p.mv n DV := (HH.out.v.at (Below.heap_setCell _ _ _ _ (Ne.symm s1))).at (turned_other T2.out (by simpa [World.setCell] using HH.out.v.lt) HH.out.vs)
    go_upto_region 7 with (at_delete; refine wpList_delete_own _ rfl _ _ 65 9 rfl 29 law_string Tryz.underlying65 RV p.mv n DV rfl hown _ _ rfl hkey ?_; intro w3 hown3 hturn3; have O3 := Lib.hid hown3; have T3 := Lib.hid hturn3; have HX3 := Lib.hid (HX2.out.turned hturn3 s1); clear hown hown3 hturn3 c0 c1 c2 c3)
    obtain ⟨c0, c1, c2, c3⟩ := HX3.out.four
    have hown : HoldsM w3 p.mn n DN := ((HH.out.nn.at (Below.heap_setCell _ _ _ _ (Ne.symm s2))).at (turned_other T2.out (by simpa [World.setCell] using HH.out.nn.lt) HH.out.ns)).at (turned_other T3.out (by rw [turned_size T2.out]; simpa [World.setCell] using HH.out.nn.lt) (Ne.symm HH.out.vn))
    go_wp2_with (at_delete; refine wpList_delete_own _ rfl _ _ 66 9 rfl 26 law_string Tryz.underlying66 RV p.mn n DN rfl hown _ _ rfl hkey ?_; intro w4 hown4 hturn4; have HD := Lib.hid (drop_done HH.out O2.out T2.out O3.out T3.out hown4 hturn4 HS.out); clear hown hown4 hturn4 c0 c1 c2 c3)
    go_ret
    exact HD.out
end Go.Proofs.YtboondbognbnnaaGreatDoor
