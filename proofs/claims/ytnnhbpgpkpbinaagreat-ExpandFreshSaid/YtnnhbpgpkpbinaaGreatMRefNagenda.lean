/- The document's answer, package abacusref25: Noun: agenda. -/
import Derived.Test.YtnnhbpgpkpbinaaGreatMRefF
import Derived.Deep.RegionLaw
import Derived.Deep.AppendLies
set_option linter.unusedVariables false
set_option linter.unusedSimpArgs false
namespace Go.Proofs.YtnnhbpgpkpbinaaGreat
open Go.RowKit

set_option maxRecDepth 100000 in
set_option maxHeartbeats 4000000 in
theorem rnoun_agenda43_1 (l : List T) (xt : ByteArray) (xn : Int) (sa : Option Addr) (sl sc : Nat) (aa : Option Addr) (al ac b o kl kc : Nat) (w : World) (S : Nat → Prop) (hS : ∀ b, S b → b < w.heap.size) (hb : b < w.heap.size) (hl : kl = l.length) (h2 : 2 ≤ kl) (h17 : kl ≤ 17) (h : KidsS w S b o l) (hn : ∀ u ∈ l, NounRef u ∧ Verb u) :
    Calls Tryz.prog 23 #[.agg #[.int .i64 43, .string xt, .int .i64 xn, .slice sa sl sc, .slice aa al ac, .slice (some ⟨b, o, none⟩) kl kc], .int .i64 1] w (TermPost S (.mk 5 (T.txt []) 0 [] [] (T.nouns l 1)) w) := by
  have HK := Lib.hid h
  have HN := Lib.hid hn
  have HL := Lib.hid hl
  clear h hn hl
  have B0 := Lib.hid (two_below w ⟨43, xt, xn, sa, sl, sc, aa, al, ac, some ⟨b, o, none⟩, kl, kc⟩)
  have X0 := Lib.hid (two_box w ⟨43, xt, xn, sa, sl, sc, aa, al, ac, some ⟨b, o, none⟩, kl, kc⟩)
  have R00 := Lib.hid (two_res w ⟨43, xt, xn, sa, sl, sc, aa, al, ac, some ⟨b, o, none⟩, kl, kc⟩)
  have HP := Lib.hid (ropens_known (x := ⟨43, xt, xn, sa, sl, sc, aa, al, ac, some ⟨b, o, none⟩, kl, kc⟩) (v := 1) (b := true) (by rfl))
  simp only at B0 X0 R00 HP
  go_enter Tryz.func23, Tryz.ntmps23
  go_wp2_with fail
  refine (rnameT_calls _ _).mono ?_
  rintro e w1 ⟨rfl, hb1⟩
  have X1 := Lib.hid (X0.out.below hb1 (by simp only [World.size_alloc]; omega))
  have R1' := Lib.hid (R00.out.below hb1 (by simp only [World.size_alloc]; omega))
  have HB1 := Lib.hid (B0.out.trans (hb1.mono B0.out.size))
  have hz1 : w.heap.size + 2 ≤ w1.heap.size := by have := hb1.size; simp only [World.size_alloc] at this; omega
  clear hb1
  simp only [leafTV, TV.val, TV.cells]
  go_wp2_with fail
  refine (rnameT_calls _ _).mono ?_
  rintro e w2 ⟨rfl, hb2⟩
  have X2 := Lib.hid (X1.out.below hb2 (by omega))
  have R2' := Lib.hid (R1'.out.below hb2 (by omega))
  have HB2 := Lib.hid (HB1.out.trans (hb2.mono HB1.out.size))
  have hz2 : w.heap.size + 2 ≤ w2.heap.size := by have := hb2.size; omega
  clear hb2
  simp only [leafTV, TV.val, TV.cells]
  go_upto_region 2 with fail
  have hbx := (Box.new w2 (leafTV 2 ⟨#[120]⟩) 29).alloc (.cells (leafTV 2 ⟨#[121]⟩).cells 29)
  have hby := Box.new (w2.alloc (.cells (leafTV 2 ⟨#[120]⟩).cells 29)) (leafTV 2 ⟨#[121]⟩) 29
  have hba : Below w2.heap.size w2 ((w2.alloc (.cells (leafTV 2 ⟨#[120]⟩).cells 29)).alloc (.cells (leafTV 2 ⟨#[121]⟩).cells 29)) := by go_grown
  simp only [leafTV, TV.cells, World.size_alloc] at hbx hby hba
  generalize (w2.alloc (.cells #[.int .i64 2, .string ⟨#[120]⟩, .int .i64 0, .slice none 0 0, .slice none 0 0, .slice none 0 0] 29)).alloc (.cells #[.int .i64 2, .string ⟨#[121]⟩, .int .i64 0, .slice none 0 0, .slice none 0 0, .slice none 0 0] 29) = w3 at hbx hby hba ⊢
  have X3 := Lib.hid (X2.out.below hba (by omega))
  have R3' := Lib.hid (R2'.out.below hba (by omega))
  have HB3 := Lib.hid (HB2.out.trans (hba.mono HB2.out.size))
  have HX3 := Lib.hid hbx
  have HY3 := Lib.hid hby
  have hz3 : w2.heap.size + 1 < w3.heap.size := hby.lt
  clear hba hbx hby
  obtain ⟨q0, q1, q2, q3, q4, q5, qf⟩ := X3.out
  simp only at q0 q1 q2 q3 q4 q5
  go_wp2_with fail
  refine (HP.out _).mono ?_
  rintro e w4 ⟨rfl, hb4⟩
  have X4 := Lib.hid (X3.out.below hb4 (by omega))
  have R4' := Lib.hid (R3'.out.below hb4 (by omega))
  have HX4 := Lib.hid (HX3.out.below hb4 (by omega))
  have HY4 := Lib.hid (HY3.out.below hb4 (by omega))
  have HB4 := Lib.hid (HB3.out.trans (hb4.mono HB3.out.size))
  have hz4 : w2.heap.size + 1 < w4.heap.size := by have := hb4.size; omega
  have g41 : w.heap.size < w4.heap.size := by omega
  have g42 : w.heap.size + 1 < w4.heap.size := by omega
  have g43 : w2.heap.size < w4.heap.size := by omega
  clear hb4 q0 q1 q2 q3 q4 q5 qf
  obtain ⟨q0, q1, q2, q3, q4, q5, qf⟩ := X4.out
  obtain ⟨s0, s1, s2, s3, s4, s5, sf⟩ := HX4.out
  obtain ⟨t0, t1, t2, t3, t4, t5, tf⟩ := HY4.out
  simp only at q0 q1 q2 q3 q4 q5 s0 s1 s2 s3 s4 s5 t0 t1 t2 t3 t4 t5
  go_upto_region 32 with fail
  have hbf := Box.new w4 (leafTV 2 ⟨#[121]⟩) 29
  have hba := (Below.refl w4.heap.size w4).alloc (Nat.le_refl _) (.cells (leafTV 2 ⟨#[121]⟩).cells 29)
  simp only [leafTV, TV.cells, World.size_alloc] at hbf hba
  generalize w4.alloc (.cells #[.int .i64 2, .string ⟨#[121]⟩, .int .i64 0, .slice none 0 0, .slice none 0 0, .slice none 0 0] 29) = w5 at hbf hba ⊢
  have R5 := R4'.out.below hba (by omega)
  have Y5 := HY4.out.below hba (by omega)
  have HB5 := Lib.hid (HB4.out.trans (hba.mono HB4.out.size))
  have hz5 := hbf.lt
  clear hba q0 q1 q2 q3 q4 q5 qf s0 s1 s2 s3 s4 s5 sf t0 t1 t2 t3 t4 t5 tf
  have RR5 := Lib.hid R5
  clear R5 Y5 hbf
  go_wp2_with fail
  refine (rterm_nil 5 _).mono ?_
  rintro e w6 ⟨rfl, hb6⟩
  simp only [leafTV, TV.val, TV.cells]
  go_upto_region 33 with fail
  have hbt := Box.new w6 (pickTV none 0 0) 29
  have hba := (Below.refl w6.heap.size w6).alloc (Nat.le_refl _) (.cells (pickTV none 0 0).cells 29)
  simp only [pickTV, TV.cells] at hbt hba
  generalize w6.alloc (.cells #[.int .i64 5, .string ⟨#[]⟩, .int .i64 0, .slice none 0 0, .slice none 0 0, .slice none 0 0] 29) = w7 at hbt hba ⊢
  have hz6 := hb6.size
  obtain ⟨tb, htb⟩ : ∃ tb, w6.heap.size = tb := ⟨_, rfl⟩
  have hP0 := Lib.hid (PickS.start (S := S) (l := T.nouns l 1) (tb := tb) (HB5.out.trans ((hb6.trans (hba.mono hz6)).mono HB5.out.size)) (by rw [← htb]; exact hbt) ((RR5.out.below hb6 (by omega)).below hba (by omega)))
  have ht2 : w.heap.size + 2 ≤ tb := by omega
  rw [htb]
  clear hb6 hbt hba htb
  go_wp2_with fail
  go_loopw [10] (fun i wr => ∃ (K : Nat) (A : Option Addr) (c : Nat) (ys : List TV), K ≤ kl ∧ i = .int .i64 K ∧ PickS w S tb (T.nouns l 1) K wr A c ys) (fun i _ => kl - (intOf i).toNat)
  case atStart => exact ⟨0, none, 0, [], Nat.zero_le _, rfl, hP0.out⟩
  case round =>
    obtain ⟨i, A, c, ys, hi, rfl, hrel⟩ := hrel
    have HPK := Lib.hid hrel
    clear hrel
    by_cases hlt : i < kl
    · have hil : i < l.length := by rw [← HL.out]; exact hlt
      have hu : l[i]? = some l[i] := List.getElem?_eq_getElem hil
      obtain ⟨y, hat, hru⟩ := HK.out i l[i] hu
      have hnu := HN.out l[i] (List.getElem_mem hil)
      have HU := Lib.hid (show (T.nouns l 1)[i]? = some (T.noun l[i] 1) from by rw [T.nouns_map, List.getElem?_map, hu]; rfl)
      have HC := Lib.hid (fun (W : World) (h : Below w.heap.size w W) => hnu.1 hnu.2 y 1 W S (fun b hb => Nat.lt_of_lt_of_le (hS b hb) h.size) (hru.below h hS) (by omega))
      simp only [TV.val, TV.cells] at HC
      have hbw : b < wr.heap.size := by have := HPK.out.below.size; omega
      have hat' := hat.keep hb (Keeps.of_below HPK.out.below (Nat.le_refl _))
      have S0 := Lib.hid (show Held_rg wr tb b (o + i * 6) A i c y from ⟨HPK.out.box.c5, hat'.c0, hat'.c1, hat'.c2, hat'.c3, hat'.c4, hat'.c5⟩)
      obtain ⟨q0, q1, q2, q3, q4, q5⟩ := hat'
      have p5 := HPK.out.box.c5
      simp only [pickTV] at p5
      have hzt := HPK.out.box.lt
      have hbt : b < tb := by omega
      have hk0 : (0 : Int) ≤ (i : Int) := by omega
      have hk1 : (i : Int) < (kl : Int) := by omega
      have nx1 : ¬ b = tb := by omega
      have nx2 : ¬ tb = b := by omega
      clear hat hru hnu hu
      obtain ⟨i0, hi0, hz0, hz1', hz2'⟩ := info_parts info_term0
      go_wp2_with fail
      go_region_law (first
          | (refine step_append_lies _ (by rfl) _ _ 22 (by rfl) (tb + 1) 29 i0 _ 6 104 Tryz.underlying22 hi0 hz0 hz1' hz2' (by rfl) (by decide) _ i (rowCells ys) (by rfl) (HPK.out.row.kept (grown_of_below (HB4'.out.trans ((Below.refl w4.heap.size w4).alloc (Nat.le_refl _) _ |>.mono hz4')) none) (by cases h : (Value.slice A i c).ownBlock <;> simp)) ⟨w4.heap.size, 0, none⟩ 1 1 z.cells.toList (by rfl) (by rfl) (row_new w4 z.cells _) (cells_one z) (by omega) (by unfold maxLen; omega) (by omega) (by simp; omega) (w4.heap.size + 1) (by simp) ?_; intro g cap w5 hown hgrow hat hlt5; have S3 := ((S0.out.keep HB4'.out hzt hbw).keep ((Below.refl w4.heap.size w4).alloc (Nat.le_refl _) (.cells z.cells 29)) (by omega) (by omega)).grow hgrow (fun g e => (HPK.out.row.lt g e).1) hbt; unfold Held_rg at S3; have S3 := S3.2; have S4 := Lib.hid (S3); have S3 := Lib.hid S3; have T5 : Box w5 tb (pickTV A i c) := Box.grown (((HPK.out.box.below HB4'.out hzt)).alloc _) hgrow (fun e => by have := (HPK.out.row.lt _ e.symm).1; omega); obtain ⟨p0, p1, p2, p3, p4, p5, pf⟩ := T5; simp only [pickTV] at p0 p1 p2 p3 p4 p5)
          | (go_simp; go_at_call 23; (with_reducible refine (HC.out _ (by first | exact HPK.out.below | exact HPK.out.below.drew)).mono ?_); rintro e w4 ⟨z, rfl, hr, hb4⟩; simp only [TV.val, TV.cells]; have hb4' : Below wr.heap.size wr w4 := (by first | exact hb4 | exact (Below.refl _ _).drew.trans hb4); have S1 := S0.out.keep hb4' hzt hbw; unfold Held_rg at S1; have p54 := S1.1; have S1 := S1.2; have S1 := Lib.hid S1; have HR4 := Lib.hid hr; have HB4' := Lib.hid hb4'; have hz4' := hb4'.size; have hz5' : tb < w4.heap.size := (by omega); clear hr hb4))
      all_goals
        have HNX := Lib.hid (HPK.out.next hS ht2 (by rfl) HU.out HB4'.out HR4.out hgrow hown hat)
        clear hgrow hown hat p0 p1 p2 p3 p4 p5 pf p54 hlt5
        go_wp2_with fail
        go_roundw
        case rel => exact ⟨i + 1, _, _, _, by omega, by go_num, HNX.out⟩
        case measure => simp [intOf]; omega
    · obtain rfl : i = kl := by omega
      have hlen : i = (T.nouns l 1).length := by rw [T.nouns_map, List.length_map]; exact HL.out
      have HE := Lib.hid (HPK.out.ends hlen (by omega) (by omega))
      have HBW := Lib.hid HPK.out.below
      obtain ⟨p0, p1, p2, p3, p4, p5, pf⟩ := HPK.out.box
      obtain ⟨r0, r1, r2, r3, r4, r5, rf⟩ := HPK.out.res
      simp only [pickTV] at p0 p1 p2 p3 p4 p5
      simp only [zeroTV] at r0 r1 r2 r3 r4 r5
      have hzt := HPK.out.box.lt
      have e1 : ¬ tb = w.heap.size + 1 := by omega
      have e2 : ¬ w.heap.size + 1 = tb := by omega
      clear hlen
      go_wp2_with fail
      refine bodyPost_ret (v := (pickTV A i c).val) (by simp [results, Tryz.results23, pickTV, TV.val, TV.cells, r0, r1, r2, r3, r4, r5, rf, go_sem]) rfl ?_
      with_reducible exact pass_ends (rb := w.heap.size + 1) (k := 2) hS (HE.out.mono (fun b h => h.imp id (fun h => ⟨by omega, h.2⟩))) HBW.out (by omega) (by omega) _ _ _ _ _ _
set_option maxRecDepth 100000 in
set_option maxHeartbeats 4000000 in
theorem rnoun_agenda43_2 (l : List T) (xt : ByteArray) (xn : Int) (sa : Option Addr) (sl sc : Nat) (aa : Option Addr) (al ac b o kl kc : Nat) (w : World) (S : Nat → Prop) (hS : ∀ b, S b → b < w.heap.size) (hb : b < w.heap.size) (hl : kl = l.length) (h2 : 2 ≤ kl) (h17 : kl ≤ 17) (h : KidsS w S b o l) (hn : ∀ u ∈ l, NounRef u ∧ Verb u) :
    Calls Tryz.prog 23 #[.agg #[.int .i64 43, .string xt, .int .i64 xn, .slice sa sl sc, .slice aa al ac, .slice (some ⟨b, o, none⟩) kl kc], .int .i64 2] w (TermPost S (.mk 5 (T.txt []) 0 [] [] (T.nouns l 2)) w) := by
  have HK := Lib.hid h
  have HN := Lib.hid hn
  have HL := Lib.hid hl
  clear h hn hl
  have B0 := Lib.hid (two_below w ⟨43, xt, xn, sa, sl, sc, aa, al, ac, some ⟨b, o, none⟩, kl, kc⟩)
  have X0 := Lib.hid (two_box w ⟨43, xt, xn, sa, sl, sc, aa, al, ac, some ⟨b, o, none⟩, kl, kc⟩)
  have R00 := Lib.hid (two_res w ⟨43, xt, xn, sa, sl, sc, aa, al, ac, some ⟨b, o, none⟩, kl, kc⟩)
  have HP := Lib.hid (ropens_known (x := ⟨43, xt, xn, sa, sl, sc, aa, al, ac, some ⟨b, o, none⟩, kl, kc⟩) (v := 2) (b := true) (by rfl))
  simp only at B0 X0 R00 HP
  go_enter Tryz.func23, Tryz.ntmps23
  go_wp2_with fail
  refine (rnameT_calls _ _).mono ?_
  rintro e w1 ⟨rfl, hb1⟩
  have X1 := Lib.hid (X0.out.below hb1 (by simp only [World.size_alloc]; omega))
  have R1' := Lib.hid (R00.out.below hb1 (by simp only [World.size_alloc]; omega))
  have HB1 := Lib.hid (B0.out.trans (hb1.mono B0.out.size))
  have hz1 : w.heap.size + 2 ≤ w1.heap.size := by have := hb1.size; simp only [World.size_alloc] at this; omega
  clear hb1
  simp only [leafTV, TV.val, TV.cells]
  go_wp2_with fail
  refine (rnameT_calls _ _).mono ?_
  rintro e w2 ⟨rfl, hb2⟩
  have X2 := Lib.hid (X1.out.below hb2 (by omega))
  have R2' := Lib.hid (R1'.out.below hb2 (by omega))
  have HB2 := Lib.hid (HB1.out.trans (hb2.mono HB1.out.size))
  have hz2 : w.heap.size + 2 ≤ w2.heap.size := by have := hb2.size; omega
  clear hb2
  simp only [leafTV, TV.val, TV.cells]
  go_upto_region 2 with fail
  have hbx := (Box.new w2 (leafTV 2 ⟨#[120]⟩) 29).alloc (.cells (leafTV 2 ⟨#[121]⟩).cells 29)
  have hby := Box.new (w2.alloc (.cells (leafTV 2 ⟨#[120]⟩).cells 29)) (leafTV 2 ⟨#[121]⟩) 29
  have hba : Below w2.heap.size w2 ((w2.alloc (.cells (leafTV 2 ⟨#[120]⟩).cells 29)).alloc (.cells (leafTV 2 ⟨#[121]⟩).cells 29)) := by go_grown
  simp only [leafTV, TV.cells, World.size_alloc] at hbx hby hba
  generalize (w2.alloc (.cells #[.int .i64 2, .string ⟨#[120]⟩, .int .i64 0, .slice none 0 0, .slice none 0 0, .slice none 0 0] 29)).alloc (.cells #[.int .i64 2, .string ⟨#[121]⟩, .int .i64 0, .slice none 0 0, .slice none 0 0, .slice none 0 0] 29) = w3 at hbx hby hba ⊢
  have X3 := Lib.hid (X2.out.below hba (by omega))
  have R3' := Lib.hid (R2'.out.below hba (by omega))
  have HB3 := Lib.hid (HB2.out.trans (hba.mono HB2.out.size))
  have HX3 := Lib.hid hbx
  have HY3 := Lib.hid hby
  have hz3 : w2.heap.size + 1 < w3.heap.size := hby.lt
  clear hba hbx hby
  obtain ⟨q0, q1, q2, q3, q4, q5, qf⟩ := X3.out
  simp only at q0 q1 q2 q3 q4 q5
  go_wp2_with fail
  refine (HP.out _).mono ?_
  rintro e w4 ⟨rfl, hb4⟩
  have X4 := Lib.hid (X3.out.below hb4 (by omega))
  have R4' := Lib.hid (R3'.out.below hb4 (by omega))
  have HX4 := Lib.hid (HX3.out.below hb4 (by omega))
  have HY4 := Lib.hid (HY3.out.below hb4 (by omega))
  have HB4 := Lib.hid (HB3.out.trans (hb4.mono HB3.out.size))
  have hz4 : w2.heap.size + 1 < w4.heap.size := by have := hb4.size; omega
  have g41 : w.heap.size < w4.heap.size := by omega
  have g42 : w.heap.size + 1 < w4.heap.size := by omega
  have g43 : w2.heap.size < w4.heap.size := by omega
  clear hb4 q0 q1 q2 q3 q4 q5 qf
  obtain ⟨q0, q1, q2, q3, q4, q5, qf⟩ := X4.out
  obtain ⟨s0, s1, s2, s3, s4, s5, sf⟩ := HX4.out
  obtain ⟨t0, t1, t2, t3, t4, t5, tf⟩ := HY4.out
  simp only at q0 q1 q2 q3 q4 q5 s0 s1 s2 s3 s4 s5 t0 t1 t2 t3 t4 t5
  go_upto_region 32 with fail
  have hbf := Box.new w4 (leafTV 2 ⟨#[120]⟩) 29
  have hba := (Below.refl w4.heap.size w4).alloc (Nat.le_refl _) (.cells (leafTV 2 ⟨#[120]⟩).cells 29)
  simp only [leafTV, TV.cells, World.size_alloc] at hbf hba
  generalize w4.alloc (.cells #[.int .i64 2, .string ⟨#[120]⟩, .int .i64 0, .slice none 0 0, .slice none 0 0, .slice none 0 0] 29) = w5 at hbf hba ⊢
  have R5 := R4'.out.below hba (by omega)
  have Y5 := HY4.out.below hba (by omega)
  have HB5 := Lib.hid (HB4.out.trans (hba.mono HB4.out.size))
  have hz5 := hbf.lt
  clear hba q0 q1 q2 q3 q4 q5 qf s0 s1 s2 s3 s4 s5 sf t0 t1 t2 t3 t4 t5 tf
  have RR5 := Lib.hid R5
  clear R5 Y5 hbf
  go_wp2_with fail
  refine (rterm_nil 5 _).mono ?_
  rintro e w6 ⟨rfl, hb6⟩
  simp only [leafTV, TV.val, TV.cells]
  go_upto_region 33 with fail
  have hbt := Box.new w6 (pickTV none 0 0) 29
  have hba := (Below.refl w6.heap.size w6).alloc (Nat.le_refl _) (.cells (pickTV none 0 0).cells 29)
  simp only [pickTV, TV.cells] at hbt hba
  generalize w6.alloc (.cells #[.int .i64 5, .string ⟨#[]⟩, .int .i64 0, .slice none 0 0, .slice none 0 0, .slice none 0 0] 29) = w7 at hbt hba ⊢
  have hz6 := hb6.size
  obtain ⟨tb, htb⟩ : ∃ tb, w6.heap.size = tb := ⟨_, rfl⟩
  have hP0 := Lib.hid (PickS.start (S := S) (l := T.nouns l 2) (tb := tb) (HB5.out.trans ((hb6.trans (hba.mono hz6)).mono HB5.out.size)) (by rw [← htb]; exact hbt) ((RR5.out.below hb6 (by omega)).below hba (by omega)))
  have ht2 : w.heap.size + 2 ≤ tb := by omega
  rw [htb]
  clear hb6 hbt hba htb
  go_wp2_with fail
  go_loopw [10] (fun i wr => ∃ (K : Nat) (A : Option Addr) (c : Nat) (ys : List TV), K ≤ kl ∧ i = .int .i64 K ∧ PickS w S tb (T.nouns l 2) K wr A c ys) (fun i _ => kl - (intOf i).toNat)
  case atStart => exact ⟨0, none, 0, [], Nat.zero_le _, rfl, hP0.out⟩
  case round =>
    obtain ⟨i, A, c, ys, hi, rfl, hrel⟩ := hrel
    have HPK := Lib.hid hrel
    clear hrel
    by_cases hlt : i < kl
    · have hil : i < l.length := by rw [← HL.out]; exact hlt
      have hu : l[i]? = some l[i] := List.getElem?_eq_getElem hil
      obtain ⟨y, hat, hru⟩ := HK.out i l[i] hu
      have hnu := HN.out l[i] (List.getElem_mem hil)
      have HU := Lib.hid (show (T.nouns l 2)[i]? = some (T.noun l[i] 2) from by rw [T.nouns_map, List.getElem?_map, hu]; rfl)
      have HC := Lib.hid (fun (W : World) (h : Below w.heap.size w W) => hnu.1 hnu.2 y 2 W S (fun b hb => Nat.lt_of_lt_of_le (hS b hb) h.size) (hru.below h hS) (by omega))
      simp only [TV.val, TV.cells] at HC
      have hbw : b < wr.heap.size := by have := HPK.out.below.size; omega
      have hat' := hat.keep hb (Keeps.of_below HPK.out.below (Nat.le_refl _))
      have S0 := Lib.hid (show Held_rg wr tb b (o + i * 6) A i c y from ⟨HPK.out.box.c5, hat'.c0, hat'.c1, hat'.c2, hat'.c3, hat'.c4, hat'.c5⟩)
      obtain ⟨q0, q1, q2, q3, q4, q5⟩ := hat'
      have p5 := HPK.out.box.c5
      simp only [pickTV] at p5
      have hzt := HPK.out.box.lt
      have hbt : b < tb := by omega
      have hk0 : (0 : Int) ≤ (i : Int) := by omega
      have hk1 : (i : Int) < (kl : Int) := by omega
      have nx1 : ¬ b = tb := by omega
      have nx2 : ¬ tb = b := by omega
      clear hat hru hnu hu
      obtain ⟨i0, hi0, hz0, hz1', hz2'⟩ := info_parts info_term0
      go_wp2_with fail
      go_region_law (first
          | (refine step_append_lies _ (by rfl) _ _ 22 (by rfl) (tb + 1) 29 i0 _ 6 104 Tryz.underlying22 hi0 hz0 hz1' hz2' (by rfl) (by decide) _ i (rowCells ys) (by rfl) (HPK.out.row.kept (grown_of_below (HB4'.out.trans ((Below.refl w4.heap.size w4).alloc (Nat.le_refl _) _ |>.mono hz4')) none) (by cases h : (Value.slice A i c).ownBlock <;> simp)) ⟨w4.heap.size, 0, none⟩ 1 1 z.cells.toList (by rfl) (by rfl) (row_new w4 z.cells _) (cells_one z) (by omega) (by unfold maxLen; omega) (by omega) (by simp; omega) (w4.heap.size + 1) (by simp) ?_; intro g cap w5 hown hgrow hat hlt5; have S3 := ((S0.out.keep HB4'.out hzt hbw).keep ((Below.refl w4.heap.size w4).alloc (Nat.le_refl _) (.cells z.cells 29)) (by omega) (by omega)).grow hgrow (fun g e => (HPK.out.row.lt g e).1) hbt; unfold Held_rg at S3; have S3 := S3.2; have S4 := Lib.hid (S3); have S3 := Lib.hid S3; have T5 : Box w5 tb (pickTV A i c) := Box.grown (((HPK.out.box.below HB4'.out hzt)).alloc _) hgrow (fun e => by have := (HPK.out.row.lt _ e.symm).1; omega); obtain ⟨p0, p1, p2, p3, p4, p5, pf⟩ := T5; simp only [pickTV] at p0 p1 p2 p3 p4 p5)
          | (go_simp; go_at_call 23; (with_reducible refine (HC.out _ (by first | exact HPK.out.below | exact HPK.out.below.drew)).mono ?_); rintro e w4 ⟨z, rfl, hr, hb4⟩; simp only [TV.val, TV.cells]; have hb4' : Below wr.heap.size wr w4 := (by first | exact hb4 | exact (Below.refl _ _).drew.trans hb4); have S1 := S0.out.keep hb4' hzt hbw; unfold Held_rg at S1; have p54 := S1.1; have S1 := S1.2; have S1 := Lib.hid S1; have HR4 := Lib.hid hr; have HB4' := Lib.hid hb4'; have hz4' := hb4'.size; have hz5' : tb < w4.heap.size := (by omega); clear hr hb4))
      all_goals
        have HNX := Lib.hid (HPK.out.next hS ht2 (by rfl) HU.out HB4'.out HR4.out hgrow hown hat)
        clear hgrow hown hat p0 p1 p2 p3 p4 p5 pf p54 hlt5
        go_wp2_with fail
        go_roundw
        case rel => exact ⟨i + 1, _, _, _, by omega, by go_num, HNX.out⟩
        case measure => simp [intOf]; omega
    · obtain rfl : i = kl := by omega
      have hlen : i = (T.nouns l 2).length := by rw [T.nouns_map, List.length_map]; exact HL.out
      have HE := Lib.hid (HPK.out.ends hlen (by omega) (by omega))
      have HBW := Lib.hid HPK.out.below
      obtain ⟨p0, p1, p2, p3, p4, p5, pf⟩ := HPK.out.box
      obtain ⟨r0, r1, r2, r3, r4, r5, rf⟩ := HPK.out.res
      simp only [pickTV] at p0 p1 p2 p3 p4 p5
      simp only [zeroTV] at r0 r1 r2 r3 r4 r5
      have hzt := HPK.out.box.lt
      have e1 : ¬ tb = w.heap.size + 1 := by omega
      have e2 : ¬ w.heap.size + 1 = tb := by omega
      clear hlen
      go_wp2_with fail
      refine bodyPost_ret (v := (pickTV A i c).val) (by simp [results, Tryz.results23, pickTV, TV.val, TV.cells, r0, r1, r2, r3, r4, r5, rf, go_sem]) rfl ?_
      with_reducible exact pass_ends (rb := w.heap.size + 1) (k := 2) hS (HE.out.mono (fun b h => h.imp id (fun h => ⟨by omega, h.2⟩))) HBW.out (by omega) (by omega) _ _ _ _ _ _
end Go.Proofs.YtnnhbpgpkpbinaaGreat
