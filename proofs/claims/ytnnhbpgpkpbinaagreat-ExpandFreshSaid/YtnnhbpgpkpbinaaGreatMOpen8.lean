/- Package expand: the opener of an agenda. -/
import Derived.Test.YtnnhbpgpkpbinaaGreatMExpA
import Derived.Deep.RegionHeld3
import Derived.Deep.RegionLaw
import Derived.Deep.AppendLies
set_option linter.unusedVariables false
set_option linter.unusedSimpArgs false
namespace Go.Proofs.YtnnhbpgpkpbinaaGreat
open Go.RowKit

theorem Grows.set {w0 wr : World} {base k tb o : Nat} {l : List T} {ys : List TV} {v : Value} {FK : List Nat} (h : Grows w0 base l ys k v wr FK) (ht : tb < base) (x : Value) : Grows (wr.setCell ⟨tb, o, none⟩ x) base l ys k v (wr.setCell ⟨tb, o, none⟩ x) FK := by
  obtain ⟨h1, h2, h3, h4, h5, h6⟩ := h
  have hlt := h3.lt
  have hs : (wr.setCell ⟨tb, o, none⟩ x).heap.size = wr.heap.size := by simp [World.setCell]
  refine ⟨Below.refl _ _, by rw [hs]; exact h2, h3.kept (grown_set wr tb o x) ?_, h4.kept (fun b hb => Below.heap_setCell _ _ _ _ (fun e => ?_)), by rw [hs]; exact h5, h6⟩
  · cases hv : v.ownBlock with
    | none => exact .inl rfl
    | some g => exact .inr (by have := (hlt g hv).1; simp; omega)
  · simp only at e
    have := h5.lo b hb
    omega
theorem Grows.reset {w0 wr : World} {base k : Nat} {l : List T} {ys : List TV} {v : Value} {FK : List Nat} (h : Grows w0 base l ys k v wr FK) : Grows wr base l ys k v wr FK := { h with below := Below.refl _ _ }
theorem Grows.drew {w0 wr : World} {base k : Nat} {l : List T} {ys : List TV} {v : Value} {FK : List Nat} (h : Grows w0 base l ys k v wr FK) : Grows w0 base l ys k v wr.drew FK :=
  ⟨h.below.drew, h.hbase, h.row, h.kids.kept (fun _ _ => rfl), h.fresh, h.apart⟩
def pickTV (A : Option Addr) (k c : Nat) : TV := ⟨5, ⟨#[]⟩, 0, none, 0, 0, none, 0, 0, A, k, c⟩
/-- at a round's head -/
structure PickRel (w : World) (l : List T) (k : Nat) (wr : World) (A : Option Addr) (c : Nat) (ys : List TV) (FK : List Nat) : Prop where
  below : Below w.heap.size w wr
  box : Box wr (w.heap.size + 1) (pickTV A k c)
  res : Box wr w.heap.size zeroTV
  grows : Grows wr (w.heap.size + 2) l ys k (.slice A k c) wr FK

def Held_ag (w' : World) (h vb cb eb : Nat) (A : Option Addr) (i c : Nat) (y : TV) : Prop :=
  w'.cell? ⟨cb, 0, none⟩ = some (.pointer (some ⟨eb, 0, none⟩)) ∧ w'.cell? ⟨h + 1, 5, none⟩ = some (.slice A i c) ∧ w'.cell? ⟨vb, 0, none⟩ = some (.int .i64 y.kind) ∧ w'.cell? ⟨vb, 1, none⟩ = some (.string y.text) ∧ w'.cell? ⟨vb, 2, none⟩ = some (.int .i64 y.n) ∧ w'.cell? ⟨vb, 3, none⟩ = some (.slice y.sa y.sl y.sc) ∧ w'.cell? ⟨vb, 4, none⟩ = some (.slice y.aa y.al y.ac) ∧ w'.cell? ⟨vb, 5, none⟩ = some (.slice y.ka y.kl y.kc)
theorem Held_ag.keep {w w' : World} {h vb cb eb : Nat} {A : Option Addr} {i c B : Nat} {y : TV} (hh : Held_ag w h vb cb eb A i c y) (hb : Below B w w') (h1 : vb < B) (h2 : h + 1 < B) (h3 : cb < B) : Held_ag w' h vb cb eb A i c y := by
  have hk := fun o => hb.cell (p := ⟨vb, o, none⟩) h1
  obtain ⟨c0, t5, a0, a1, a2, a3, a4, a5⟩ := hh
  exact ⟨(hb.cell (p := ⟨cb, 0, none⟩) h3).trans c0, (hb.cell (p := ⟨h + 1, 5, none⟩) h2).trans t5, (hk _).trans a0, (hk _).trans a1, (hk _).trans a2, (hk _).trans a3, (hk _).trans a4, (hk _).trans a5⟩

theorem Held_ag.grow {wb w5 : World} {h vb cb eb : Nat} {A : Option Addr} {i c : Nat} {y : TV} {V : Value} (hh : Held_ag wb h vb cb eb A i c y) (hg : wb.grownBy w5 V.ownBlock) (hne : ∀ g, V.ownBlock = some g → h + 2 ≤ g ∧ g < vb) (hcb : cb < h) : Held_ag w5 h vb cb eb A i c y := by
  have ne : ∀ q, (q = vb ∨ q < h + 2) → some q ≠ V.ownBlock := by
    intro q hq e
    have := hne q e.symm
    omega
  obtain ⟨c0, t5, a0, a1, a2, a3, a4, a5⟩ := hh
  exact ⟨hg.cell c0 (ne cb (by omega)), hg.cell t5 (ne (h + 1) (by omega)), hg.cell a0 (ne vb (.inl rfl)), hg.cell a1 (ne vb (.inl rfl)), hg.cell a2 (ne vb (.inl rfl)), hg.cell a3 (ne vb (.inl rfl)), hg.cell a4 (ne vb (.inl rfl)), hg.cell a5 (ne vb (.inl rfl))⟩
theorem Box.grown {w w' : World} {b : Nat} {x : TV} {row : Option Nat} (h : Box w b x) (hg : w.grownBy w' row) (hne : some b ≠ row) : Box w' b x :=
  ⟨hg.cell h.c0 hne, hg.cell h.c1 hne, hg.cell h.c2 hne, hg.cell h.c3 hne, hg.cell h.c4 hne, hg.cell h.c5 hne, fun o => (World.frozen?_of_block (a := ⟨b, o, none⟩) (hg.block b h.lt hne)).trans (h.f o)⟩

theorem pick_next {w wr wv w4 w5 : World} {l : List T} {k c g cap : Nat} {A : Option Addr} {ys : List TV} {FK G : List Nat} {u : T} {z : TV} (hP : PickRel w l k wr A c ys FK) (hba : Below wr.heap.size wr wv) (hzv : wr.heap.size < wv.heap.size) (hu : l[k]? = some u)
    (hb4 : Below wv.heap.size wv w4) (hO : Own w4 u z G) (hF : Fresh wv.heap.size w4.heap.size G) (hgrow : (w4.alloc (.cells z.cells 29)).grownBy w5 (Value.ownBlock (.slice A k c)))
    (hown : w5.ownsRow (w.heap.size + 2) 29 6 (.slice (some ⟨g, 0, none⟩) (k + 1) cap) (k + 1) (rowCells ys ++ z.cells.toList)) (hat : Value.ownBlock (.slice A k c) = some g ∨ g = w4.heap.size + 1) :
    PickRel w l (k + 1) (w5.setCell ⟨w.heap.size + 1, 5, none⟩ (.slice (some ⟨g, 0, none⟩) (k + 1) cap)) (some ⟨g, 0, none⟩) cap (ys ++ [z]) (FK ++ G) := by
  have hbb : Below wr.heap.size wr w4 := hba.trans (hb4.mono (Nat.le_of_lt hzv))
  have hbc : Below wr.heap.size wr (w4.alloc (.cells z.cells 29)) := hbb.alloc (by have := hbb.size; omega) _
  have hal := (Below.refl w4.heap.size w4).alloc (Nat.le_refl _) (.cells z.cells 29)
  have hlt := hP.grows.row.lt
  have hst := hP.grows.step hu hbc (hO.below hF hal (Nat.le_refl _)) (hF.mono (Nat.le_of_lt hzv) hal.size) hgrow hown (by
    rcases hat with h | h
    · exact .inl (by rw [h]; rfl)
    · exact .inr (by rw [h]; simp [Value.ownBlock]))
  have ne1 : some (w.heap.size + 1) ≠ Value.ownBlock (.slice A k c) := fun e => by have := (hlt _ e.symm).1; omega
  have ne0 : some w.heap.size ≠ Value.ownBlock (.slice A k c) := fun e => by have := (hlt _ e.symm).1; omega
  have bx := (hP.box.below hbc hP.box.lt).grown hgrow ne1
  have br := (hP.res.below hbc hP.res.lt).grown hgrow ne0
  refine ⟨((hP.below.trans (hbc.mono hP.below.size)).grown hgrow (by have := hP.below.size; have := hbc.size; omega) (fun q e => by have := (hlt q e).1; omega)).setCell (by simp) _, ?_, ?_, ?_⟩
  · have := bx.set5 (some ⟨g, 0, none⟩) (k + 1) cap
    exact this
  · exact br.other (by omega) _
  · exact hst.set (by omega) _
theorem pick_own {w wr : World} {l : List T} {k c g : Nat} {ys : List TV} {FK F3 : List Nat} (hk : k = l.length) (hP : PickRel w l k wr (some ⟨g, 0, none⟩) c ys FK) (hOB : OwnB wr 29 6 (some ⟨g, 0, none⟩) k k F3) (hOL : OwnL wr l (some ⟨g, 0, none⟩) 0 FK) (hFr : Fresh (w.heap.size + 2) wr.heap.size (F3 ++ FK)) (v : Value) (hl : l.length ≤ 4096 := by omega) :
    Own (wr.setCell ⟨w.heap.size + 1, 5, none⟩ v) (.mk 5 (T.txt []) 0 [] [] l) (nodeTV 5 0 g k) (F3 ++ FK) ∧ Fresh (w.heap.size + 1) (wr.setCell ⟨w.heap.size + 1, 5, none⟩ v).heap.size (F3 ++ FK) := by
  have hs : (wr.setCell ⟨w.heap.size + 1, 5, none⟩ v).heap.size = wr.heap.size := by simp [World.setCell]
  refine ⟨Own.kept _ _ _ ?_ (fun b hb => Below.heap_setCell _ _ _ _ (fun e => by have := hFr.lo b hb; simp only at e; omega)), by rw [hs]; exact hFr.mono (by omega) (Nat.le_refl _)⟩
  simp only [Own]
  refine ⟨⟨(by show (-9223372036854775808 : Int) ≤ 5; decide), (by show (5 : Int) ≤ 9223372036854775807; decide), (by show (-9223372036854775808 : Int) ≤ 0; decide), (by show (0 : Int) ≤ 9223372036854775807; decide), Nat.zero_le _, Nat.le_refl _, Nat.le_refl _, Nat.le_refl _, Nat.zero_le _, Nat.zero_le _, ?_, Nat.zero_le _, Nat.zero_le _, ?_⟩, rfl, rfl, rfl, hk, [], [], F3, FK, rfl, ?_, ?_, hOB, hOL⟩
  · show k ≤ 2199023255552; omega
  · show k ≤ maxLen; unfold maxLen; omega
  · exact ⟨rfl, .inl ⟨rfl, rfl, rfl⟩, fun b e => by cases e⟩
  · exact ⟨rfl, .inl ⟨rfl, rfl, rfl⟩, fun b e => by cases e⟩

set_option maxRecDepth 100000 in
set_option maxHeartbeats 8000000 in
theorem agenda_calls (t : T) (x : TV) (B : Nat) (v : Int) (eb mb cb : Nat) (w : World) (hr : Rep w B t x) (hB : B ≤ w.heap.size) (hl2 : 2 ≤ t.kids.length) (hl17 : t.kids.length ≤ 17) (hE : ExpAt w eb mb cb) (hv : v = 1 ∨ v = 2)
    (hn : ∀ u ∈ t.kids, NounAll u ∧ Verb u) :
    Calls Tryz.prog 61 #[.slice x.ka x.kl x.kc, .int .i64 v, .pointer (some ⟨cb, 0, none⟩)] w (TwinPost (.mk 5 (T.txt []) 0 [] [] (T.nouns t.kids v)) w) := by
  have HR := Lib.hid hr
  have HL := Lib.hid hr.kl
  have hk2 : 2 ≤ x.kl := by have := hr.kl; omega
  have hk17 : x.kl ≤ 17 := by have := hr.kl; omega
  have HN := Lib.hid hn
  have HE := Lib.hid hE
  have hc := hE.c
  have hcb := hE.lt.2.2
  clear hn hE hr
  have hp0 : PickRel w (T.nouns t.kids v) 0 ((w.alloc (.cells zeroTV.cells 29)).alloc (.cells (pickTV none 0 0).cells 29)) none 0 [] [] := by
    have hb : Below w.heap.size w ((w.alloc (.cells zeroTV.cells 29)).alloc (.cells (pickTV none 0 0).cells 29)) := by go_grown
    refine ⟨hb, ?_, (Box.new w zeroTV 29).alloc _, ?_⟩
    · have := Box.new (w.alloc (.cells zeroTV.cells 29)) (pickTV none 0 0) 29
      simpa using this
    · have := Grows.start ((w.alloc (.cells zeroTV.cells 29)).alloc (.cells (pickTV none 0 0).cells 29)) (T.nouns t.kids v)
      simpa using this
  simp only [zeroTV, pickTV, TV.cells] at hp0
  have HP0 := Lib.hid hp0
  clear hp0
  go_enter Tryz.func61, Tryz.ntmps61
  go_wp2_with fail
  go_loopw [12] (fun i wr => ∃ (k : Nat) (A : Option Addr) (c : Nat) (ys : List TV) (FK : List Nat), k ≤ x.kl ∧ i = .int .i64 k ∧ PickRel w (T.nouns t.kids v) k wr A c ys FK) (fun i _ => x.kl - (intOf i).toNat)
  case atStart => exact ⟨0, none, 0, [], [], Nat.zero_le _, rfl, HP0.out⟩
  case round =>
    obtain ⟨i, A, c, ys, FK, hi, rfl, hrel⟩ := hrel
    have HP := Lib.hid hrel
    clear hrel
    by_cases hlt : i < x.kl
    · obtain ⟨u, hu⟩ : ∃ u, t.kids[i]? = some u := ⟨t.kids[i]'(by rw [← HL.out]; exact hlt), by simp⟩
      obtain ⟨b, o, y, he, hb, hat, hru⟩ := HR.out.kid hu
      have hnu := HN.out u (List.mem_of_getElem? hu)
      have hat' := hat.keep hb (Keeps.of_below HP.out.below hB)
      have HU := Lib.hid (show (T.nouns t.kids v)[i]? = some (T.noun u v) from by rw [T.nouns_map, List.getElem?_map, hu]; rfl)
      have HC := Lib.hid (fun W (h : Below w.heap.size w W) => noun_later hnu.1 hnu.2 hru hB HE.out h hv)
      have hbw : b < wr.heap.size := by have := HP.out.below.size; omega
      have hcw : cb < wr.heap.size := by have := HP.out.below.size; omega
      have hc' : wr.cell? ⟨cb, 0, none⟩ = some (.pointer (some ⟨eb, 0, none⟩)) := (HP.out.below.cell (p := ⟨cb, 0, none⟩) hcb).trans hc
      obtain ⟨q0, q1, q2, q3, q4, q5⟩ := hat'
      rw [he]
      obtain ⟨p0, p1, p2, p3, p4, p5, pf⟩ := HP.out.box
      simp only [pickTV] at p0 p1 p2 p3 p4 p5
      have hz := HP.out.box.lt
      clear hu hat hru he hnu
      go_wp2_with fail
      have hvb := Box.new wr y 29
      have hpb := HP.out.box.alloc (.cells y.cells 29)
      have hba := (Below.refl wr.heap.size wr).alloc (Nat.le_refl _) (.cells y.cells 29)
      have hca := (hba.cell (p := ⟨cb, 0, none⟩) hcw).trans hc'
      simp only [TV.cells, pickTV] at hvb hpb hba hca
      clear q0 q1 q2 q3 q4 q5 p0 p1 p2 p3 p4 p5 pf hc'
      generalize wr.alloc (.cells #[.int .i64 y.kind, .string y.text, .int .i64 y.n, .slice y.sa y.sl y.sc, .slice y.aa y.al y.ac, .slice y.ka y.kl y.kc] 29) = wv at hvb hpb hba hca ⊢
      have HBV := Lib.hid (HP.out.below.trans (hba.mono HP.out.below.size))
      have HGV := Lib.hid (HP.out.grows.kept hba)
      have HRV := Lib.hid (HP.out.res.below hba (by omega))
      have HBA := Lib.hid hba
      have S0 := Lib.hid (show Held_ag wv w.heap.size wr.heap.size cb eb A i c y from ⟨hca, hpb.c5, hvb.c0, hvb.c1, hvb.c2, hvb.c3, hvb.c4, hvb.c5⟩)
      have HPB := Lib.hid hpb
      obtain ⟨q0, q1, q2, q3, q4, q5, qf⟩ := hvb
      have p5 := hpb.c5
      simp only at p5
      have hzv : wr.heap.size < wv.heap.size := World.block_lt_of_cell? _ _ q0
      have hzt : w.heap.size + 1 < wv.heap.size := by omega
      have hzc : cb < wv.heap.size := by omega
      have nx1 : ¬ cb = w.heap.size + 1 := by omega
      have nx2 : ¬ wr.heap.size = w.heap.size + 1 := by omega
      have nx3 : ¬ w.heap.size + 1 = cb := by omega
      have nx4 : ¬ w.heap.size + 1 = wr.heap.size := by omega
      clear hpb hba
      obtain ⟨i0, hi0, hz0, hz1, hz2⟩ := info_parts info_term0
      go_region_law (first
          | (refine step_append_lies _ (by rfl) _ _ 22 (by rfl) (w.heap.size + 2) 29 i0 _ 6 104 Tryz.underlying22 hi0 hz0 hz1 hz2 (by rfl) (by decide) _ i (rowCells ys) (by rfl) ((HGV.out.kept HB4.out).kept ((Below.refl w4.heap.size w4).alloc (Nat.le_refl _) _)).row ⟨w4.heap.size, 0, none⟩ 1 1 z.cells.toList (by rfl) (by rfl) (row_new w4 z.cells _) (cells_one z) (by omega) (by unfold maxLen; omega) (by omega) (by have := (HGV.out.kept HB4.out).hbase; simp; omega) (w4.heap.size + 1) (by simp) ?_; intro g cap w5 hown hgrow hat hlt5; have S3 := ((S0.out.keep HB4.out hzv hzt hzc).keep ((Below.refl w4.heap.size w4).alloc (Nat.le_refl _) (.cells z.cells 29)) (by omega) (by omega) (by omega)).grow hgrow HP.out.grows.row.lt hcb; unfold Held_ag at S3; have S3 := And.intro S3.1 S3.2.2; have S4 := Lib.hid (S3); have S3 := Lib.hid S3; have T5 : Box w5 (w.heap.size + 1) (pickTV A i c) := Box.grown (((HPB.out.below HB4.out hzt)).alloc _) hgrow (fun e => by have := (HP.out.grows.row.lt _ e.symm).1; omega); obtain ⟨p0, p1, p2, p3, p4, p5, pf⟩ := T5; simp only [pickTV] at p0 p1 p2 p3 p4 p5)
          | (go_simp; go_at_call 28; (with_reducible refine (HC.out _ (by first | exact HBV.out | exact HBV.out.drew)).mono ?_); rintro e w4 ⟨z, G, rfl, hO, hF, hb4⟩; simp only [TV.val, TV.cells]; have hb4' : Below wv.heap.size wv w4 := (by first | exact hb4 | exact (Below.refl _ _).drew.trans hb4); have S1 := S0.out.keep hb4' hzv hzt hzc; unfold Held_ag at S1; have p54 := S1.2.1; have S1 := And.intro S1.1 S1.2.2; have S1 := Lib.hid S1; have HO := Lib.hid hO; have HF := Lib.hid (show Fresh wv.heap.size w4.heap.size G from hF); have HB4 := Lib.hid hb4'; have hz4 := hb4'.size; have hz5 : w.heap.size + 1 < w4.heap.size := (by omega); clear hO hF hb4))
      all_goals
        have HNX := Lib.hid (pick_next HP.out HBA.out hzv HU.out HB4.out HO.out HF.out hgrow hown hat)
        clear hgrow hown hat p0 p1 p2 p3 p4 p5 pf p54 hlt5
        go_wp2_with fail
        go_roundw
        case rel => exact ⟨i + 1, _, _, _, _, by omega, by go_num, HNX.out⟩
        case measure => simp [intOf]; omega
    · obtain rfl : i = x.kl := by omega
      have hlen : x.kl = (T.nouns t.kids v).length := by rw [T.nouns_map, List.length_map]; exact HL.out
      obtain ⟨A', c', F3, e, hOB, hOL, hFr, hkc, hcm, hnone, hsome⟩ := HP.out.grows.ends hlen
      injection e with e1 _ e3
      subst e1 e3
      obtain ⟨g0, hg0⟩ : ∃ g0, A = some g0 := by
        cases A with
        | none => have := (hnone rfl).2; omega
        | some g0 => exact ⟨g0, rfl⟩
      subst hg0
      obtain ⟨g, hg⟩ := hsome g0 rfl
      cases hg
      have HW := Lib.hid (pick_own hlen HP.out hOB hOL hFr (.slice (some ⟨g, 0, none⟩) x.kl x.kl))
      obtain ⟨p0, p1, p2, p3, p4, p5, pf⟩ := HP.out.box
      obtain ⟨r0, r1, r2, r3, r4, r5, rf⟩ := HP.out.res
      simp only [pickTV] at p0 p1 p2 p3 p4 p5
      simp only [zeroTV] at r0 r1 r2 r3 r4 r5
      have hz := HP.out.box.lt
      have HB1 := Lib.hid (HP.out.below.setCell (p := ⟨w.heap.size + 1, 5, none⟩) (by simp) (.slice (some ⟨g, 0, none⟩) x.kl x.kl))
      unfold maxLen at hcm
      clear hOB hOL hFr hnone hsome hlen
      go_wp2_with fail
      refine bodyPost_ret (v := (nodeTV 5 0 g x.kl).val) (by simp [results, Tryz.results61, nodeTV, TV.val, TV.cells, r0, r1, r2, r3, r4, r5, rf, p0, p1, p2, p3, p4, p5, go_sem]) rfl ?_
      exact new_ends HW.out.1 HW.out.2 HB1.out _ _ _ _ _ _
end Go.Proofs.YtnnhbpgpkpbinaaGreat
