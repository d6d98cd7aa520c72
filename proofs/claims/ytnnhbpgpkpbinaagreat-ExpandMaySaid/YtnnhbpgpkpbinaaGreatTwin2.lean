/- Package term: twin. -/
import Derived.Test.YtnnhbpgpkpbinaaGreatTwin1
import Derived.Handy
namespace Go.Proofs.YtnnhbpgpkpbinaaGreat
open Go.RowKit

theorem clip_some (g n cap : Nat) (w : World) (h : n ≤ cap) (hc : cap ≤ maxLen) :
    Calls Tryz.prog 89 #[.slice (some ⟨g, 0, none⟩) n cap] w fun e w' => e = .returned (.slice (some ⟨g, 0, none⟩) n n) ∧ w = w' := by
  unfold maxLen at hc
  go_enter Tryz.func89, Tryz.ntmps89
  go_wp2_with fail
  go_ret
  exact ⟨rfl, rfl⟩
theorem clip_none (w : World) :
    Calls Tryz.prog 89 #[.slice none 0 0] w fun e w' => e = .returned (.slice none 0 0) ∧ w = w' := by
  go_enter Tryz.func89, Tryz.ntmps89
  go_wp2_with fail
  go_ret
  exact ⟨rfl, rfl⟩

/-- what twin answers -/
def TwinPost (t : T) (w : World) (e : Ending) (w' : World) : Prop := ∃ y F, e = .returned y.val ∧ Own w' t y F ∧ Fresh w.heap.size w'.heap.size F ∧ Below w.heap.size w w'
def TwinAll (t : T) : Prop := t.nodes ≤ 4096 → ∀ (x : TV) (B : Nat) (w : World), Rep w B t x → B ≤ w.heap.size → Calls Tryz.prog 82 #[x.val] w (TwinPost t w)
theorem info_term0 : (Tryz.prog.info? 29).map (fun i => (i.zero, i.size, i.bytes)) = some (some (.agg #[.int .i64 0, .string ⟨#[]⟩, .int .i64 0, .slice none 0 0, .slice none 0 0, .slice none 0 0]), 6, 104) := by kernel_rfl
theorem T.length_le_nodes (l : List T) : l.length ≤ T.nodesL l := by
  induction l with
  | nil => exact Nat.zero_le _
  | cons t l ih => have := T.nodes_pos t; simp only [List.length_cons, T.nodesL]; omega

/-- the parts are the term -/
theorem twin_own {k : Int} {s : ByteArray} {n : Int} {sh a : List Int} {l : List T} {x : TV} {B : Nat} {w wr : World} {A1 A2 A : Option Addr} {c1 c2 : Nat} {F1 F2 F3 FK : List Nat} (hr : Rep w B (.mk k s n sh a l) x)
    (o1 : OwnI wr 3 A1 x.sl c1 sh F1) (o2 : OwnI wr 2 A2 x.al c2 a F2) (o3 : OwnB wr 29 6 A x.kl x.kl F3) (o4 : OwnL wr l A 0 FK) (h1 : x.sl ≤ c1) (h2 : c1 ≤ maxLen) (h3 : x.al ≤ c2) (h4 : c2 ≤ maxLen) :
    Own wr (.mk k s n sh a l) ⟨x.kind, x.text, x.n, A1, x.sl, c1, A2, x.al, c2, A, x.kl, x.kl⟩ (F1 ++ F2 ++ F3 ++ FK) := by
  have hw := hr.wee
  have hk := hr.kl
  simp only [Own]
  refine ⟨⟨hw.k0, hw.k1, hw.n0, hw.n1, hw.ts, h1, h3, Nat.le_refl _, hw.s1, hw.a1, hw.l1, h2, h4, Nat.le_trans hw.l0 hw.l2⟩, hr.kind, hr.text, hr.n, hk, F1, F2, F3, FK, rfl, o1, o2, o3, o4⟩

set_option maxRecDepth 100000 in
set_option maxHeartbeats 4000000 in
theorem twin_all (t : T) : TwinAll t := by
  refine T.ind (P := TwinAll) ?_ t
  intro k s n sh a l ih hn x B w hr hB
  have hl4 : l.length ≤ 4096 := by have := T.length_le_nodes l; simp only [T.nodes] at hn; omega
  have hkl : x.kl = l.length := hr.kl
  have hk4 : x.kl ≤ 4096 := by omega
  have hwee := hr.wee
  have hS := hr.shape
  have hA := hr.atoms
  simp only [T.shape_mk, T.atoms_mk] at hS hA
  have HR := Lib.hid hr
  have HL := Lib.hid hkl
  have HIH := Lib.hid ih
  have hb0 : Below w.heap.size w ((w.alloc (.cells x.cells 29)).alloc (.cells #[.int .i64 0, .string ⟨#[]⟩, .int .i64 0, .slice none 0 0, .slice none 0 0, .slice none 0 0] 29)) := by go_grown
  have hbox0 := (Box.new w x 29).alloc (.cells #[.int .i64 0, .string ⟨#[]⟩, .int .i64 0, .slice none 0 0, .slice none 0 0, .slice none 0 0] 29)
  have hres0 := Box.new (w.alloc (.cells x.cells 29)) zeroTV 29
  have H1 := Lib.hid (clone_int x.sa x.sl x.sc B sh _ (hS.keep (Keeps.of_below hb0 hB)) (by simp; omega) hwee.s1)
  simp only [TV.cells, zeroTV, World.size_alloc] at hb0 H1 hbox0 hres0
  have HB0 := Lib.hid hb0
  have HA := Lib.hid hA
  have hal := hwee.a1
  have HBOX0 := Lib.hid hbox0
  have HRES0 := Lib.hid hres0
  clear hb0 hS hA hkl hr ih hbox0 hres0
  simp only [TV.val, TV.cells]
  go_enter Tryz.func82, Tryz.ntmps82
  go_wp2_with fail
  refine H1.out.mono ?_
  rintro e w1 ⟨A1, c1, F1, rfl, hO1, hF1, hb1, hc1, hl1⟩
  have HB1 := Lib.hid (HB0.out.trans (hb1.mono (by simp; omega)))
  have HBOX1 := Lib.hid (HBOX0.out.below hb1 (by simp; omega))
  have HRES1 := Lib.hid (HRES0.out.below hb1 (by simp))
  have HO1 := Lib.hid hO1
  have HF1 := Lib.hid (show Fresh (w.heap.size + 2) w1.heap.size F1 from by simpa using hF1)
  have hz1 := HRES1.out.lt
  have hz1' : w.heap.size + 2 ≤ w1.heap.size := by omega
  obtain ⟨k0, k1, k2, k3, k4, k5, kf⟩ := HBOX1.out
  try simp only at k0 k1 k2 k3 k4 k5
  clear hb1 hO1 hF1 H1
  go_wp2_with fail
  have hbx : Below w.heap.size w (w1.setCell ⟨w.heap.size, 3, none⟩ (.slice A1 x.sl c1)) := HB1.out.setCell (Nat.le_refl _) _
  have H2 := Lib.hid (clone_int64 x.aa x.al x.ac B a _ (HA.out.keep (Keeps.of_below hbx hB)) (by have := hbx.size; omega) hal)
  have HBX := Lib.hid hbx
  clear hbx k0 k1 k2 k3 k4 k5 kf
  refine H2.out.mono ?_
  rintro e w2 ⟨A2, c2, F2, rfl, hO2, hF2, hb2, hc2, hl2⟩
  have HB2 := Lib.hid (HBX.out.trans (hb2.mono HBX.out.size))
  have HBOX2 := Lib.hid ((HBOX1.out.set3 A1 x.sl c1).below hb2 (by simp [World.setCell]; omega))
  have HRES2 := Lib.hid ((HRES1.out.other (b' := w.heap.size) (o := 3) (by omega) (.slice A1 x.sl c1)).below hb2 (by simp [World.setCell]; omega))
  have HO1b := Lib.hid (HO1.out.kept (w' := w2) (fun b hb => (hb2.block b (by have := HF1.out.hi b hb; simpa [World.setCell] using this)).trans (Below.heap_setCell _ _ _ _ (by have := HF1.out.lo b hb; show b ≠ w.heap.size; omega))))
  have HO2 := Lib.hid hO2
  have HF2 := Lib.hid (show Fresh w1.heap.size w2.heap.size F2 from by simpa [World.setCell] using hF2)
  have hz2 := HRES2.out.lt
  have hz12 : w1.heap.size ≤ w2.heap.size := by have := hb2.size; simpa [World.setCell] using this
  obtain ⟨k0, k1, k2, k3, k4, k5, kf⟩ := HBOX2.out
  try simp only at k0 k1 k2 k3 k4 k5
  clear hb2 hO2 hF2 H2
  go_wp2_with fail
  have HB3 := Lib.hid (HB2.out.setCell (p := ⟨w.heap.size, 4, none⟩) (Nat.le_refl _) (.slice A2 x.al c2))
  have HBOX3 := Lib.hid (HBOX2.out.set4 A2 x.al c2)
  have HRES3 := Lib.hid (HRES2.out.other (b' := w.heap.size) (o := 4) (by omega) (.slice A2 x.al c2))
  have HO1c := Lib.hid (HO1b.out.kept (w' := w2.setCell ⟨w.heap.size, 4, none⟩ (.slice A2 x.al c2)) (fun b hb => Below.heap_setCell _ _ _ _ (by have := HF1.out.lo b hb; show b ≠ w.heap.size; omega)))
  have HO2c := Lib.hid (HO2.out.kept (w' := w2.setCell ⟨w.heap.size, 4, none⟩ (.slice A2 x.al c2)) (fun b hb => Below.heap_setCell _ _ _ _ (by have := HF2.out.lo b hb; show b ≠ w.heap.size; omega)))
  have hz3 : (w2.setCell ⟨w.heap.size, 4, none⟩ (.slice A2 x.al c2)).heap.size = w2.heap.size := by simp [World.setCell]
  have HZ3 := Lib.hid hz3
  clear k0 k1 k2 k3 k4 k5 kf hz3
  generalize w2.setCell ⟨w.heap.size, 4, none⟩ (.slice A2 x.al c2) = w3 at HB3 HBOX3 HRES3 HO1c HO2c HZ3 ⊢
  go_loopw [3, 21] (fun v i wr => ∃ (k : Nat) (ys : List TV) (FK : List Nat), k ≤ x.kl ∧ i = .int .i64 k ∧ Grows w3 w3.heap.size l ys k v wr FK) (fun _ i _ => x.kl - (intOf i).toNat)
  case atStart => exact ⟨0, [], [], Nat.zero_le _, rfl, Grows.start w3 l⟩
  case round =>
    obtain ⟨i, ys, FK, hi, rfl, hrel⟩ := hrel
    have HG := Lib.hid hrel
    clear hrel
    by_cases hlt : i < x.kl
    · obtain ⟨u, hu⟩ : ∃ u, l[i]? = some u := ⟨l[i]'(by rw [← HL.out]; exact hlt), by simp⟩
      obtain ⟨b, o, y, he, hb, hat, hru⟩ := HR.out.kid (t := T.mk k s n sh a l) (j := i) hu
      have HBR := Lib.hid (HB3.out.trans (HG.out.below.mono (Nat.le_trans (by omega) HB3.out.size)))
      have hat' := hat.keep hb (Keeps.of_below HBR.out hB)
      have HU := Lib.hid hu
      have hbw : b < wr.heap.size := by have := HBR.out.size; omega
      obtain ⟨q0, q1, q2, q3, q4, q5⟩ := hat'
      have hba := (Below.refl wr.heap.size wr).alloc (Nat.le_refl _) (.cells y.cells 29)
      have HC := Lib.hid (HIH.out u (List.mem_of_getElem? hu) (by have := T.nodes_mem (List.mem_of_getElem? hu); simp only [T.nodes] at hn; omega) y B _ (hru.below (HBR.out.trans (hba.mono HBR.out.size)) hB) (by have := HBR.out.size; simp; omega))
      simp only [TV.val, TV.cells] at HC hba
      have HBA := Lib.hid hba
      rw [he]
      clear he hat hru hu hba
      go_wp2_with fail
      refine HC.out.mono ?_
      rintro e w4 ⟨y', G, rfl, hO, hF, hb4⟩
      have HBB := Lib.hid ((HBA.out.trans (hb4.mono (by simp))).alloc (by have := hb4.size; simp at this; omega) (.cells y'.cells 29))
      have HK4 := Lib.hid (HG.out.kept HBB.out)
      have HO := Lib.hid (hO.below hF ((Below.refl w4.heap.size w4).alloc (Nat.le_refl _) (.cells y'.cells 29)) (Nat.le_refl _))
      have HF := Lib.hid (hF.mono (a' := wr.heap.size) (b' := (w4.alloc (.cells y'.cells 29)).heap.size) (by simp) (by simp))
      clear hb4 hO hF q0 q1 q2 q3 q4 q5
      obtain ⟨i0, hi0, hz0, hz1, hz2⟩ := info_parts info_term0
      have HROW := Lib.hid HK4.out.row
      simp only [TV.val, TV.cells] at HROW ⊢
      go_wp2_with (at_builtin; refine wpList_append_own_at _ rfl _ _ 22 rfl w3.heap.size 29 i0 _ 6 104 Tryz.underlying22 hi0 hz0 hz1 hz2 rfl (by decide) _ _ _ rfl HROW.out ⟨w4.heap.size, 0, none⟩ 1 1 y'.cells.toList rfl rfl (row_new w4 y'.cells _) (cells_one y') (by unfold maxLen; omega) (by omega) HK4.out.hbase ?_)
      intro v' w5 hown' hgrow _ hloc
      have HST := Lib.hid (HG.out.step HU.out HBB.out HO.out HF.out hgrow hown' (by simpa using hloc))
      clear hown' hgrow hloc
      go_wp2_with fail
      go_roundw
      case rel => exact ⟨i + 1, _, _, by omega, by go_num, HST.out⟩
      case measure => simp [intOf]; omega
    · obtain rfl : i = x.kl := by omega
      obtain ⟨A, c, F3, rfl, hOB, hOL, hFr, hkc, hcm, hnone, hsome⟩ := HG.out.ends HL.out
      have HBW := Lib.hid (HB3.out.trans (HG.out.below.mono (Nat.le_trans (by omega) HB3.out.size)))
      have HBOXW := Lib.hid (HBOX3.out.below HG.out.below (by have := HBOX3.out.lt; omega))
      have HRESW := Lib.hid (HRES3.out.below HG.out.below (by have := HRES3.out.lt; omega))
      have HO1w := Lib.hid (HO1c.out.kept (fun b hb => HG.out.below.block b (by have := HF1.out.hi b hb; have := HZ3.out; omega)))
      have HO2w := Lib.hid (HO2c.out.kept (fun b hb => HG.out.below.block b (by have := HF2.out.hi b hb; have := HZ3.out; omega)))
      have HOW := Lib.hid (twin_own HR.out HO1w.out HO2w.out hOB hOL hl1 hc1 hl2 hc2)
      have HFW := Lib.hid (show Fresh (w.heap.size + 2) wr.heap.size (F1 ++ F2 ++ F3 ++ FK) from by
        rw [List.append_assoc]
        exact ((HF1.out.app HF2.out (by omega) hz12).app (hFr.mono (by have := HZ3.out; omega) (Nat.le_refl _)) (by omega) (by have := HG.out.hbase; have := HZ3.out; omega)))
      obtain ⟨k0, k1, k2, k3, k4, k5, kf⟩ := HBOXW.out
      obtain ⟨r0, r1, r2, r3, r4, r5, rf⟩ := HRESW.out
      try simp only at k0 k1 k2 k3 k4 k5
      try simp only at r0 r1 r2 r3 r4 r5
      clear hOB hOL hFr
      cases A with
      | none =>
        obtain ⟨rfl, hk0⟩ := hnone rfl
        have HOW0 := HOW.out
        rw [hk0] at HOW0
        have HOW1 := Lib.hid HOW0
        rw [hk0]
        clear hnone hsome HOW0
        have HK0 := Lib.hid hk0
        clear hk0
        go_wp2_with (go_at_call 89; refine (clip_none _).mono ?_; rintro e w6 ⟨rfl, rfl⟩)
        refine bodyPost_ret (v := .agg #[.int .i64 x.kind, .string x.text, .int .i64 x.n, .slice A1 x.sl c1, .slice A2 x.al c2, .slice none 0 0]) (by simp [results, Tryz.results82, r0, r1, r2, r3, r4, r5, rf, k0, k1, k2, k3, k4, k5, kf, go_sem]) rfl ?_
        refine ⟨_, _, rfl, Own.kept _ _ _ HOW1.out (fun b hb => ?_), HFW.out.mono (by omega) ?_, ?_⟩
        · have := HFW.out.lo b hb
          iterate 7 (refine (Below.heap_setCell _ _ _ _ (fun e => by simp only at e; omega)).trans ?_)
          rfl
        · simp [World.setCell]
        · iterate 7 (refine Below.setCell ?_ (by simp) _)
          exact HBW.out
      | some g0 =>
        obtain ⟨g, hg⟩ := hsome g0 rfl
        cases hg
        clear hnone hsome
        have HKC := Lib.hid (⟨hkc, hcm⟩ : x.kl ≤ c ∧ c ≤ maxLen)
        clear hcm
        go_wp2_with (go_at_call 89; refine (clip_some _ _ _ _ HKC.out.1 HKC.out.2).mono ?_; rintro e w6 ⟨rfl, rfl⟩)
        refine bodyPost_ret (v := .agg #[.int .i64 x.kind, .string x.text, .int .i64 x.n, .slice A1 x.sl c1, .slice A2 x.al c2, .slice (some ⟨g, 0, none⟩) x.kl x.kl]) (by simp [results, Tryz.results82, r0, r1, r2, r3, r4, r5, rf, k0, k1, k2, k3, k4, k5, kf, go_sem]) rfl ?_
        refine ⟨_, _, rfl, Own.kept _ _ _ HOW.out (fun b hb => ?_), HFW.out.mono (by omega) ?_, ?_⟩
        · have := HFW.out.lo b hb
          iterate 7 (refine (Below.heap_setCell _ _ _ _ (fun e => by simp only at e; omega)).trans ?_)
          rfl
        · simp [World.setCell]
        · iterate 7 (refine Below.setCell ?_ (by simp) _)
          exact HBW.out
end Go.Proofs.YtnnhbpgpkpbinaaGreat
