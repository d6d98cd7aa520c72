/- The document's answer, package abacusref25: Noun: at. -/
import Derived.Test.YtnnhbpgpkpbinaaGreatMRefF
import Derived.Deep.RegionHeld3
set_option linter.unusedVariables false
set_option linter.unusedSimpArgs false
namespace Go.Proofs.YtnnhbpgpkpbinaaGreat
open Go.RowKit

set_option maxRecDepth 100000 in
set_option maxHeartbeats 4000000 in
theorem rnoun_at29_1 (u0 u1 : T) (y0 y1 : TV) (xt : ByteArray) (xn : Int) (sa : Option Addr) (sl sc : Nat) (aa : Option Addr) (al ac b o kl kc : Nat) (w : World) (S : Nat → Prop) (hS : ∀ b, S b → b < w.heap.size) (hb : b < w.heap.size) (hkl : 2 ≤ kl)
    (h0 : At w b (o) y0) (r0 : RepS w S u0 y0) (h1 : At w b (o + 6) y1) (r1 : RepS w S u1 y1) (n : NounRef u0) (vb : Verb u0) (n1 : NounRef u1) (v1 : Verb u1) :
    Calls Tryz.prog 23 #[.agg #[.int .i64 29, .string xt, .int .i64 xn, .slice sa sl sc, .slice aa al ac, .slice (some ⟨b, o, none⟩) kl kc], .int .i64 1] w (TermPost S (T.monT (T.other u0 1) (T.noun u1 1)) w) := by
  have HN1 := Lib.hid (fun (W : World) (h : Below w.heap.size w W) => n1 v1 y1 1 W S (fun b hb => Nat.lt_of_lt_of_le (hS b hb) h.size) (r1.below h hS) (by omega))
  simp only [TV.val, TV.cells] at HN1
  have K0 := Lib.hid h0
  have RR0 := Lib.hid r0
  have K1 := Lib.hid h1
  have RR1 := Lib.hid r1
  have HV := Lib.hid vb
  have HNN := Lib.hid n
  clear n vb h0 r0 h1 r1 n1 v1
  have B0 := Lib.hid (two_below w ⟨29, xt, xn, sa, sl, sc, aa, al, ac, some ⟨b, o, none⟩, kl, kc⟩)
  have X0 := Lib.hid (two_box w ⟨29, xt, xn, sa, sl, sc, aa, al, ac, some ⟨b, o, none⟩, kl, kc⟩)
  have R00 := Lib.hid (two_res w ⟨29, xt, xn, sa, sl, sc, aa, al, ac, some ⟨b, o, none⟩, kl, kc⟩)
  have HP := Lib.hid (ropens_known (x := ⟨29, xt, xn, sa, sl, sc, aa, al, ac, some ⟨b, o, none⟩, kl, kc⟩) (v := 1) (b := true) (by rfl))
  simp only at B0 X0 R00 HP
  go_enter Tryz.func23, Tryz.ntmps23
  go_wp2_with fail
  refine (rnameT_calls _ _).mono ?_
  rintro e w1 ⟨rfl, hb1⟩
  have X1 := Lib.hid (X0.out.below hb1 (by simp only [World.size_alloc]; omega))
  have R1' := Lib.hid (R00.out.below hb1 (by simp only [World.size_alloc]; omega))
  have HB1 := Lib.hid (B0.out.trans (hb1.mono B0.out.size))
  have hz1 : w.heap.size + 2 ≤ w1.heap.size := by have := hb1.size; simp only [World.size_alloc] at this; omega
  clear hb1
  simp only [leafTV, TV.val, TV.cells]
  go_wp2_with fail
  refine (rnameT_calls _ _).mono ?_
  rintro e w2 ⟨rfl, hb2⟩
  have X2 := Lib.hid (X1.out.below hb2 (by omega))
  have R2' := Lib.hid (R1'.out.below hb2 (by omega))
  have HB2 := Lib.hid (HB1.out.trans (hb2.mono HB1.out.size))
  have hz2 : w.heap.size + 2 ≤ w2.heap.size := by have := hb2.size; omega
  clear hb2
  simp only [leafTV, TV.val, TV.cells]
  go_upto_region 2 with fail
  have hbx := (Box.new w2 (leafTV 2 ⟨#[120]⟩) 29).alloc (.cells (leafTV 2 ⟨#[121]⟩).cells 29)
  have hby := Box.new (w2.alloc (.cells (leafTV 2 ⟨#[120]⟩).cells 29)) (leafTV 2 ⟨#[121]⟩) 29
  have hba : Below w2.heap.size w2 ((w2.alloc (.cells (leafTV 2 ⟨#[120]⟩).cells 29)).alloc (.cells (leafTV 2 ⟨#[121]⟩).cells 29)) := by go_grown
  simp only [leafTV, TV.cells, World.size_alloc] at hbx hby hba
  generalize (w2.alloc (.cells #[.int .i64 2, .string ⟨#[120]⟩, .int .i64 0, .slice none 0 0, .slice none 0 0, .slice none 0 0] 29)).alloc (.cells #[.int .i64 2, .string ⟨#[121]⟩, .int .i64 0, .slice none 0 0, .slice none 0 0, .slice none 0 0] 29) = w3 at hbx hby hba ⊢
  have X3 := Lib.hid (X2.out.below hba (by omega))
  have R3' := Lib.hid (R2'.out.below hba (by omega))
  have HB3 := Lib.hid (HB2.out.trans (hba.mono HB2.out.size))
  have HX3 := Lib.hid hbx
  have HY3 := Lib.hid hby
  have hz3 : w2.heap.size + 1 < w3.heap.size := hby.lt
  clear hba hbx hby
  obtain ⟨q0, q1, q2, q3, q4, q5, qf⟩ := X3.out
  simp only at q0 q1 q2 q3 q4 q5
  go_wp2_with fail
  refine (HP.out _).mono ?_
  rintro e w4 ⟨rfl, hb4⟩
  have X4 := Lib.hid (X3.out.below hb4 (by omega))
  have R4' := Lib.hid (R3'.out.below hb4 (by omega))
  have HX4 := Lib.hid (HX3.out.below hb4 (by omega))
  have HY4 := Lib.hid (HY3.out.below hb4 (by omega))
  have HB4 := Lib.hid (HB3.out.trans (hb4.mono HB3.out.size))
  have hz4 : w2.heap.size + 1 < w4.heap.size := by have := hb4.size; omega
  have g41 : w.heap.size < w4.heap.size := by omega
  have g42 : w.heap.size + 1 < w4.heap.size := by omega
  have g43 : w2.heap.size < w4.heap.size := by omega
  clear hb4 q0 q1 q2 q3 q4 q5 qf
  obtain ⟨q0, q1, q2, q3, q4, q5, qf⟩ := X4.out
  obtain ⟨s0, s1, s2, s3, s4, s5, sf⟩ := HX4.out
  obtain ⟨t0, t1, t2, t3, t4, t5, tf⟩ := HY4.out
  simp only at q0 q1 q2 q3 q4 q5 s0 s1 s2 s3 s4 s5 t0 t1 t2 t3 t4 t5
  go_upto_region 22 with fail
  have hbf := Box.new w4 (leafTV 2 ⟨#[121]⟩) 29
  have hba := (Below.refl w4.heap.size w4).alloc (Nat.le_refl _) (.cells (leafTV 2 ⟨#[121]⟩).cells 29)
  simp only [leafTV, TV.cells, World.size_alloc] at hbf hba
  generalize w4.alloc (.cells #[.int .i64 2, .string ⟨#[121]⟩, .int .i64 0, .slice none 0 0, .slice none 0 0, .slice none 0 0] 29) = w5 at hbf hba ⊢
  have R5 := R4'.out.below hba (by omega)
  have Y5 := HY4.out.below hba (by omega)
  have HB5 := Lib.hid (HB4.out.trans (hba.mono HB4.out.size))
  have hz5 := hbf.lt
  clear hba q0 q1 q2 q3 q4 q5 qf s0 s1 s2 s3 s4 s5 sf t0 t1 t2 t3 t4 t5 tf
  obtain ⟨a00, a01, a02, a03, a04, a05⟩ := K0.out.keep hb (Keeps.of_below HB5.out (Nat.le_refl _))
  obtain ⟨a10, a11, a12, a13, a14, a15⟩ := K1.out.keep hb (Keeps.of_below HB5.out (Nat.le_refl _))
  have hbw : b < w5.heap.size := by have := HB5.out.size; omega
  have hk0 : (0 : Int) < (kl : Int) := by omega
  have hk0' : 0 < kl := by omega
  have hk1 : (1 : Int) < (kl : Int) := by omega
  have hk1' : 1 < kl := by omega
  have S0 := Lib.hid (show w5.drew.cell? ⟨b, o, none⟩ = some (.int .i64 y0.kind) ∧ w5.drew.cell? ⟨b, o + 1, none⟩ = some (.string y0.text) ∧ w5.drew.cell? ⟨b, o + 2, none⟩ = some (.int .i64 y0.n) ∧ w5.drew.cell? ⟨b, o + 3, none⟩ = some (.slice y0.sa y0.sl y0.sc) ∧ w5.drew.cell? ⟨b, o + 4, none⟩ = some (.slice y0.aa y0.al y0.ac) ∧ w5.drew.cell? ⟨b, o + 5, none⟩ = some (.slice y0.ka y0.kl y0.kc) ∧ w5.drew.cell? ⟨b, o + 6, none⟩ = some (.int .i64 y1.kind) ∧ w5.drew.cell? ⟨b, o + 6 + 1, none⟩ = some (.string y1.text) ∧ w5.drew.cell? ⟨b, o + 6 + 2, none⟩ = some (.int .i64 y1.n) ∧ w5.drew.cell? ⟨b, o + 6 + 3, none⟩ = some (.slice y1.sa y1.sl y1.sc) ∧ w5.drew.cell? ⟨b, o + 6 + 4, none⟩ = some (.slice y1.aa y1.al y1.ac) ∧ w5.drew.cell? ⟨b, o + 6 + 5, none⟩ = some (.slice y1.ka y1.kl y1.kc) from ⟨a00, a01, a02, a03, a04, a05, a10, a11, a12, a13, a14, a15⟩)
  have HS5 := Lib.hid (show w5.cell? ⟨b, o, none⟩ = some (.int .i64 y0.kind) ∧ w5.cell? ⟨b, o + 1, none⟩ = some (.string y0.text) ∧ w5.cell? ⟨b, o + 2, none⟩ = some (.int .i64 y0.n) ∧ w5.cell? ⟨b, o + 3, none⟩ = some (.slice y0.sa y0.sl y0.sc) ∧ w5.cell? ⟨b, o + 4, none⟩ = some (.slice y0.aa y0.al y0.ac) ∧ w5.cell? ⟨b, o + 5, none⟩ = some (.slice y0.ka y0.kl y0.kc) ∧ w5.cell? ⟨b, o + 6, none⟩ = some (.int .i64 y1.kind) ∧ w5.cell? ⟨b, o + 6 + 1, none⟩ = some (.string y1.text) ∧ w5.cell? ⟨b, o + 6 + 2, none⟩ = some (.int .i64 y1.n) ∧ w5.cell? ⟨b, o + 6 + 3, none⟩ = some (.slice y1.sa y1.sl y1.sc) ∧ w5.cell? ⟨b, o + 6 + 4, none⟩ = some (.slice y1.aa y1.al y1.ac) ∧ w5.cell? ⟨b, o + 6 + 5, none⟩ = some (.slice y1.ka y1.kl y1.kc) from ⟨a00, a01, a02, a03, a04, a05, a10, a11, a12, a13, a14, a15⟩)
  have HKP := Lib.hid (fun (W : World) (h : Below w5.heap.size w5 W) => (show W.cell? ⟨b, o, none⟩ = some (.int .i64 y0.kind) ∧ W.cell? ⟨b, o + 1, none⟩ = some (.string y0.text) ∧ W.cell? ⟨b, o + 2, none⟩ = some (.int .i64 y0.n) ∧ W.cell? ⟨b, o + 3, none⟩ = some (.slice y0.sa y0.sl y0.sc) ∧ W.cell? ⟨b, o + 4, none⟩ = some (.slice y0.aa y0.al y0.ac) ∧ W.cell? ⟨b, o + 5, none⟩ = some (.slice y0.ka y0.kl y0.kc) ∧ W.cell? ⟨b, o + 6, none⟩ = some (.int .i64 y1.kind) ∧ W.cell? ⟨b, o + 6 + 1, none⟩ = some (.string y1.text) ∧ W.cell? ⟨b, o + 6 + 2, none⟩ = some (.int .i64 y1.n) ∧ W.cell? ⟨b, o + 6 + 3, none⟩ = some (.slice y1.sa y1.sl y1.sc) ∧ W.cell? ⟨b, o + 6 + 4, none⟩ = some (.slice y1.aa y1.al y1.ac) ∧ W.cell? ⟨b, o + 6 + 5, none⟩ = some (.slice y1.ka y1.kl y1.kc) from ⟨(h.cell (p := ⟨b, o, none⟩) hbw).trans a00, (h.cell (p := ⟨b, o + 1, none⟩) hbw).trans a01, (h.cell (p := ⟨b, o + 2, none⟩) hbw).trans a02, (h.cell (p := ⟨b, o + 3, none⟩) hbw).trans a03, (h.cell (p := ⟨b, o + 4, none⟩) hbw).trans a04, (h.cell (p := ⟨b, o + 5, none⟩) hbw).trans a05, (h.cell (p := ⟨b, o + 6, none⟩) hbw).trans a10, (h.cell (p := ⟨b, o + 6 + 1, none⟩) hbw).trans a11, (h.cell (p := ⟨b, o + 6 + 2, none⟩) hbw).trans a12, (h.cell (p := ⟨b, o + 6 + 3, none⟩) hbw).trans a13, (h.cell (p := ⟨b, o + 6 + 4, none⟩) hbw).trans a14, (h.cell (p := ⟨b, o + 6 + 5, none⟩) hbw).trans a15⟩))
  have d1 : ¬ b = w.heap.size + 1 := by omega
  have d2 : ¬ w.heap.size + 1 = b := by omega
  have d3 : ¬ w2.heap.size = w.heap.size := by omega
  have d4 : ¬ w.heap.size = w2.heap.size := by omega
  have d5 : ¬ w4.heap.size = w.heap.size + 1 := by omega
  have d6 : ¬ w.heap.size + 1 = w4.heap.size := by omega
  have RR5 := Lib.hid R5
  obtain ⟨y0', y1', y2', y3', y4', y5', yf'⟩ := Y5
  obtain ⟨f0', f1', f2', f3', f4', f5', ff'⟩ := hbf
  simp only at y0' y1' y2' y3' y4' y5' f0' f1' f2' f3' f4' f5'
  clear R5
  go_wp2_with fail
  go_region_held3 (fun w' => w'.cell? ⟨b, o, none⟩ = some (.int .i64 y0.kind) ∧ w'.cell? ⟨b, o + 1, none⟩ = some (.string y0.text) ∧ w'.cell? ⟨b, o + 2, none⟩ = some (.int .i64 y0.n) ∧ w'.cell? ⟨b, o + 3, none⟩ = some (.slice y0.sa y0.sl y0.sc) ∧ w'.cell? ⟨b, o + 4, none⟩ = some (.slice y0.aa y0.al y0.ac) ∧ w'.cell? ⟨b, o + 5, none⟩ = some (.slice y0.ka y0.kl y0.kc) ∧ w'.cell? ⟨b, o + 6, none⟩ = some (.int .i64 y1.kind) ∧ w'.cell? ⟨b, o + 6 + 1, none⟩ = some (.string y1.text) ∧ w'.cell? ⟨b, o + 6 + 2, none⟩ = some (.int .i64 y1.n) ∧ w'.cell? ⟨b, o + 6 + 3, none⟩ = some (.slice y1.sa y1.sl y1.sc) ∧ w'.cell? ⟨b, o + 6 + 4, none⟩ = some (.slice y1.aa y1.al y1.ac) ∧ w'.cell? ⟨b, o + 6 + 5, none⟩ = some (.slice y1.ka y1.kl y1.kc))
    (first | (with_reducible exact S0.out) | (with_reducible exact HS5.out) | (with_reducible exact S6.out) | (with_reducible exact S7.out) | go_keep | ((try dsimp only); (repeat' apply And.intro); (all_goals go_keep)))
    (first
      | (go_at_call 23; (with_reducible refine (HN1.out _ (by first | exact HB5.out | exact HB5.out.drew)).mono ?_); rintro e w6 ⟨z1, rfl, hr1, hb6⟩; simp only [TV.val, TV.cells]; have HBf6 : Hid (Below w5.heap.size w5 w6) := Lib.hid ((by first | exact hb6 | exact (Below.refl _ _).drew.trans hb6)); have S6 := Lib.hid (HKP.out _ HBf6.out); have HB6 := Lib.hid (HB5.out.trans (HBf6.out.mono HB5.out.size)); have hz6 := HBf6.out.size; have HR1 := Lib.hid (RepS.mono (S' := fun b => S b ∨ (w.heap.size + 2 ≤ b ∧ b < w6.heap.size)) hr1 (fun b h => by rcases h with h | h; exact .inl h; exact .inr (by have h1 := h.1; have h2 := h.2; (first | (change w5.heap.size ≤ b at h1) | skip); omega))); clear hr1 hb6)
      | (go_at_call 46; (refine (rone_calls HNN.out HV.out y0 z1 _ (fun b => S b ∨ (w.heap.size + 2 ≤ b ∧ b < w6.heap.size)) (fun b h => by rcases h with h | h; (have h2 := hS b h; have h3 := HB5.out.size; omega); exact h.2) ((RR0.out.below HB6.out hS).mono (fun _ h => .inl h)) HR1.out).mono ?_); rintro e w7 ⟨yy, rfl, hr, hb7⟩; simp only [TV.val, TV.cells]; have HBf7 : Hid (Below w5.heap.size w5 w7) := Lib.hid (HBf6.out.trans (hb7.mono HBf6.out.size)); have S7 := Lib.hid (HKP.out _ HBf7.out); have HB7 := Lib.hid (HB5.out.trans (HBf7.out.mono HB5.out.size)); have hz7 := HBf7.out.size; have HR := Lib.hid (RepS.mono (S' := fun b => S b ∨ (w.heap.size + 2 ≤ b ∧ b < w7.heap.size)) hr (fun b h => by have h4 := hb7.size; rcases h with (h | h) | h; exact .inl h; exact .inr (by omega); exact .inr (by omega))); clear hr hb7; have R6 : Box w7 (w.heap.size + 1) zeroTV := RR5.out.below HBf7.out (by omega); obtain ⟨r0, r1, r2, r3, r4, r5, rf⟩ := R6; simp only [zeroTV] at r0 r1 r2 r3 r4 r5))
  all_goals
    go_wp2_with fail
    refine bodyPost_ret (v := yy.val) (by simp [results, Tryz.results23, TV.val, TV.cells, r0, r1, r2, r3, r4, r5, rf, go_sem]) rfl ?_
    with_reducible exact pass_ends (rb := w.heap.size + 1) (k := 2) hS HR.out HB7.out (by omega) (by omega) _ _ _ _ _ _
set_option maxRecDepth 100000 in
set_option maxHeartbeats 4000000 in
theorem rnoun_at29_2 (u0 u1 : T) (y0 y1 : TV) (xt : ByteArray) (xn : Int) (sa : Option Addr) (sl sc : Nat) (aa : Option Addr) (al ac b o kl kc : Nat) (w : World) (S : Nat → Prop) (hS : ∀ b, S b → b < w.heap.size) (hb : b < w.heap.size) (hkl : 2 ≤ kl)
    (h0 : At w b (o) y0) (r0 : RepS w S u0 y0) (h1 : At w b (o + 6) y1) (r1 : RepS w S u1 y1) (n : NounRef u0) (vb : Verb u0) (n1 : NounRef u1) (v1 : Verb u1) :
    Calls Tryz.prog 23 #[.agg #[.int .i64 29, .string xt, .int .i64 xn, .slice sa sl sc, .slice aa al ac, .slice (some ⟨b, o, none⟩) kl kc], .int .i64 2] w (TermPost S (T.monT (T.other u0 1) (T.noun u1 2)) w) := by
  have HN1 := Lib.hid (fun (W : World) (h : Below w.heap.size w W) => n1 v1 y1 2 W S (fun b hb => Nat.lt_of_lt_of_le (hS b hb) h.size) (r1.below h hS) (by omega))
  simp only [TV.val, TV.cells] at HN1
  have K0 := Lib.hid h0
  have RR0 := Lib.hid r0
  have K1 := Lib.hid h1
  have RR1 := Lib.hid r1
  have HV := Lib.hid vb
  have HNN := Lib.hid n
  clear n vb h0 r0 h1 r1 n1 v1
  have B0 := Lib.hid (two_below w ⟨29, xt, xn, sa, sl, sc, aa, al, ac, some ⟨b, o, none⟩, kl, kc⟩)
  have X0 := Lib.hid (two_box w ⟨29, xt, xn, sa, sl, sc, aa, al, ac, some ⟨b, o, none⟩, kl, kc⟩)
  have R00 := Lib.hid (two_res w ⟨29, xt, xn, sa, sl, sc, aa, al, ac, some ⟨b, o, none⟩, kl, kc⟩)
  have HP := Lib.hid (ropens_known (x := ⟨29, xt, xn, sa, sl, sc, aa, al, ac, some ⟨b, o, none⟩, kl, kc⟩) (v := 2) (b := true) (by rfl))
  simp only at B0 X0 R00 HP
  go_enter Tryz.func23, Tryz.ntmps23
  go_wp2_with fail
  refine (rnameT_calls _ _).mono ?_
  rintro e w1 ⟨rfl, hb1⟩
  have X1 := Lib.hid (X0.out.below hb1 (by simp only [World.size_alloc]; omega))
  have R1' := Lib.hid (R00.out.below hb1 (by simp only [World.size_alloc]; omega))
  have HB1 := Lib.hid (B0.out.trans (hb1.mono B0.out.size))
  have hz1 : w.heap.size + 2 ≤ w1.heap.size := by have := hb1.size; simp only [World.size_alloc] at this; omega
  clear hb1
  simp only [leafTV, TV.val, TV.cells]
  go_wp2_with fail
  refine (rnameT_calls _ _).mono ?_
  rintro e w2 ⟨rfl, hb2⟩
  have X2 := Lib.hid (X1.out.below hb2 (by omega))
  have R2' := Lib.hid (R1'.out.below hb2 (by omega))
  have HB2 := Lib.hid (HB1.out.trans (hb2.mono HB1.out.size))
  have hz2 : w.heap.size + 2 ≤ w2.heap.size := by have := hb2.size; omega
  clear hb2
  simp only [leafTV, TV.val, TV.cells]
  go_upto_region 2 with fail
  have hbx := (Box.new w2 (leafTV 2 ⟨#[120]⟩) 29).alloc (.cells (leafTV 2 ⟨#[121]⟩).cells 29)
  have hby := Box.new (w2.alloc (.cells (leafTV 2 ⟨#[120]⟩).cells 29)) (leafTV 2 ⟨#[121]⟩) 29
  have hba : Below w2.heap.size w2 ((w2.alloc (.cells (leafTV 2 ⟨#[120]⟩).cells 29)).alloc (.cells (leafTV 2 ⟨#[121]⟩).cells 29)) := by go_grown
  simp only [leafTV, TV.cells, World.size_alloc] at hbx hby hba
  generalize (w2.alloc (.cells #[.int .i64 2, .string ⟨#[120]⟩, .int .i64 0, .slice none 0 0, .slice none 0 0, .slice none 0 0] 29)).alloc (.cells #[.int .i64 2, .string ⟨#[121]⟩, .int .i64 0, .slice none 0 0, .slice none 0 0, .slice none 0 0] 29) = w3 at hbx hby hba ⊢
  have X3 := Lib.hid (X2.out.below hba (by omega))
  have R3' := Lib.hid (R2'.out.below hba (by omega))
  have HB3 := Lib.hid (HB2.out.trans (hba.mono HB2.out.size))
  have HX3 := Lib.hid hbx
  have HY3 := Lib.hid hby
  have hz3 : w2.heap.size + 1 < w3.heap.size := hby.lt
  clear hba hbx hby
  obtain ⟨q0, q1, q2, q3, q4, q5, qf⟩ := X3.out
  simp only at q0 q1 q2 q3 q4 q5
  go_wp2_with fail
  refine (HP.out _).mono ?_
  rintro e w4 ⟨rfl, hb4⟩
  have X4 := Lib.hid (X3.out.below hb4 (by omega))
  have R4' := Lib.hid (R3'.out.below hb4 (by omega))
  have HX4 := Lib.hid (HX3.out.below hb4 (by omega))
  have HY4 := Lib.hid (HY3.out.below hb4 (by omega))
  have HB4 := Lib.hid (HB3.out.trans (hb4.mono HB3.out.size))
  have hz4 : w2.heap.size + 1 < w4.heap.size := by have := hb4.size; omega
  have g41 : w.heap.size < w4.heap.size := by omega
  have g42 : w.heap.size + 1 < w4.heap.size := by omega
  have g43 : w2.heap.size < w4.heap.size := by omega
  clear hb4 q0 q1 q2 q3 q4 q5 qf
  obtain ⟨q0, q1, q2, q3, q4, q5, qf⟩ := X4.out
  obtain ⟨s0, s1, s2, s3, s4, s5, sf⟩ := HX4.out
  obtain ⟨t0, t1, t2, t3, t4, t5, tf⟩ := HY4.out
  simp only at q0 q1 q2 q3 q4 q5 s0 s1 s2 s3 s4 s5 t0 t1 t2 t3 t4 t5
  go_upto_region 22 with fail
  have hbf := Box.new w4 (leafTV 2 ⟨#[120]⟩) 29
  have hba := (Below.refl w4.heap.size w4).alloc (Nat.le_refl _) (.cells (leafTV 2 ⟨#[120]⟩).cells 29)
  simp only [leafTV, TV.cells, World.size_alloc] at hbf hba
  generalize w4.alloc (.cells #[.int .i64 2, .string ⟨#[120]⟩, .int .i64 0, .slice none 0 0, .slice none 0 0, .slice none 0 0] 29) = w5 at hbf hba ⊢
  have R5 := R4'.out.below hba (by omega)
  have Y5 := HY4.out.below hba (by omega)
  have HB5 := Lib.hid (HB4.out.trans (hba.mono HB4.out.size))
  have hz5 := hbf.lt
  clear hba q0 q1 q2 q3 q4 q5 qf s0 s1 s2 s3 s4 s5 sf t0 t1 t2 t3 t4 t5 tf
  obtain ⟨a00, a01, a02, a03, a04, a05⟩ := K0.out.keep hb (Keeps.of_below HB5.out (Nat.le_refl _))
  obtain ⟨a10, a11, a12, a13, a14, a15⟩ := K1.out.keep hb (Keeps.of_below HB5.out (Nat.le_refl _))
  have hbw : b < w5.heap.size := by have := HB5.out.size; omega
  have hk0 : (0 : Int) < (kl : Int) := by omega
  have hk0' : 0 < kl := by omega
  have hk1 : (1 : Int) < (kl : Int) := by omega
  have hk1' : 1 < kl := by omega
  have S0 := Lib.hid (show w5.drew.cell? ⟨b, o, none⟩ = some (.int .i64 y0.kind) ∧ w5.drew.cell? ⟨b, o + 1, none⟩ = some (.string y0.text) ∧ w5.drew.cell? ⟨b, o + 2, none⟩ = some (.int .i64 y0.n) ∧ w5.drew.cell? ⟨b, o + 3, none⟩ = some (.slice y0.sa y0.sl y0.sc) ∧ w5.drew.cell? ⟨b, o + 4, none⟩ = some (.slice y0.aa y0.al y0.ac) ∧ w5.drew.cell? ⟨b, o + 5, none⟩ = some (.slice y0.ka y0.kl y0.kc) ∧ w5.drew.cell? ⟨b, o + 6, none⟩ = some (.int .i64 y1.kind) ∧ w5.drew.cell? ⟨b, o + 6 + 1, none⟩ = some (.string y1.text) ∧ w5.drew.cell? ⟨b, o + 6 + 2, none⟩ = some (.int .i64 y1.n) ∧ w5.drew.cell? ⟨b, o + 6 + 3, none⟩ = some (.slice y1.sa y1.sl y1.sc) ∧ w5.drew.cell? ⟨b, o + 6 + 4, none⟩ = some (.slice y1.aa y1.al y1.ac) ∧ w5.drew.cell? ⟨b, o + 6 + 5, none⟩ = some (.slice y1.ka y1.kl y1.kc) from ⟨a00, a01, a02, a03, a04, a05, a10, a11, a12, a13, a14, a15⟩)
  have HS5 := Lib.hid (show w5.cell? ⟨b, o, none⟩ = some (.int .i64 y0.kind) ∧ w5.cell? ⟨b, o + 1, none⟩ = some (.string y0.text) ∧ w5.cell? ⟨b, o + 2, none⟩ = some (.int .i64 y0.n) ∧ w5.cell? ⟨b, o + 3, none⟩ = some (.slice y0.sa y0.sl y0.sc) ∧ w5.cell? ⟨b, o + 4, none⟩ = some (.slice y0.aa y0.al y0.ac) ∧ w5.cell? ⟨b, o + 5, none⟩ = some (.slice y0.ka y0.kl y0.kc) ∧ w5.cell? ⟨b, o + 6, none⟩ = some (.int .i64 y1.kind) ∧ w5.cell? ⟨b, o + 6 + 1, none⟩ = some (.string y1.text) ∧ w5.cell? ⟨b, o + 6 + 2, none⟩ = some (.int .i64 y1.n) ∧ w5.cell? ⟨b, o + 6 + 3, none⟩ = some (.slice y1.sa y1.sl y1.sc) ∧ w5.cell? ⟨b, o + 6 + 4, none⟩ = some (.slice y1.aa y1.al y1.ac) ∧ w5.cell? ⟨b, o + 6 + 5, none⟩ = some (.slice y1.ka y1.kl y1.kc) from ⟨a00, a01, a02, a03, a04, a05, a10, a11, a12, a13, a14, a15⟩)
  have HKP := Lib.hid (fun (W : World) (h : Below w5.heap.size w5 W) => (show W.cell? ⟨b, o, none⟩ = some (.int .i64 y0.kind) ∧ W.cell? ⟨b, o + 1, none⟩ = some (.string y0.text) ∧ W.cell? ⟨b, o + 2, none⟩ = some (.int .i64 y0.n) ∧ W.cell? ⟨b, o + 3, none⟩ = some (.slice y0.sa y0.sl y0.sc) ∧ W.cell? ⟨b, o + 4, none⟩ = some (.slice y0.aa y0.al y0.ac) ∧ W.cell? ⟨b, o + 5, none⟩ = some (.slice y0.ka y0.kl y0.kc) ∧ W.cell? ⟨b, o + 6, none⟩ = some (.int .i64 y1.kind) ∧ W.cell? ⟨b, o + 6 + 1, none⟩ = some (.string y1.text) ∧ W.cell? ⟨b, o + 6 + 2, none⟩ = some (.int .i64 y1.n) ∧ W.cell? ⟨b, o + 6 + 3, none⟩ = some (.slice y1.sa y1.sl y1.sc) ∧ W.cell? ⟨b, o + 6 + 4, none⟩ = some (.slice y1.aa y1.al y1.ac) ∧ W.cell? ⟨b, o + 6 + 5, none⟩ = some (.slice y1.ka y1.kl y1.kc) from ⟨(h.cell (p := ⟨b, o, none⟩) hbw).trans a00, (h.cell (p := ⟨b, o + 1, none⟩) hbw).trans a01, (h.cell (p := ⟨b, o + 2, none⟩) hbw).trans a02, (h.cell (p := ⟨b, o + 3, none⟩) hbw).trans a03, (h.cell (p := ⟨b, o + 4, none⟩) hbw).trans a04, (h.cell (p := ⟨b, o + 5, none⟩) hbw).trans a05, (h.cell (p := ⟨b, o + 6, none⟩) hbw).trans a10, (h.cell (p := ⟨b, o + 6 + 1, none⟩) hbw).trans a11, (h.cell (p := ⟨b, o + 6 + 2, none⟩) hbw).trans a12, (h.cell (p := ⟨b, o + 6 + 3, none⟩) hbw).trans a13, (h.cell (p := ⟨b, o + 6 + 4, none⟩) hbw).trans a14, (h.cell (p := ⟨b, o + 6 + 5, none⟩) hbw).trans a15⟩))
  have d1 : ¬ b = w.heap.size + 1 := by omega
  have d2 : ¬ w.heap.size + 1 = b := by omega
  have d3 : ¬ w2.heap.size = w.heap.size := by omega
  have d4 : ¬ w.heap.size = w2.heap.size := by omega
  have d5 : ¬ w4.heap.size = w.heap.size + 1 := by omega
  have d6 : ¬ w.heap.size + 1 = w4.heap.size := by omega
  have RR5 := Lib.hid R5
  obtain ⟨y0', y1', y2', y3', y4', y5', yf'⟩ := Y5
  obtain ⟨f0', f1', f2', f3', f4', f5', ff'⟩ := hbf
  simp only at y0' y1' y2' y3' y4' y5' f0' f1' f2' f3' f4' f5'
  clear R5
  go_wp2_with fail
  go_region_held3 (fun w' => w'.cell? ⟨b, o, none⟩ = some (.int .i64 y0.kind) ∧ w'.cell? ⟨b, o + 1, none⟩ = some (.string y0.text) ∧ w'.cell? ⟨b, o + 2, none⟩ = some (.int .i64 y0.n) ∧ w'.cell? ⟨b, o + 3, none⟩ = some (.slice y0.sa y0.sl y0.sc) ∧ w'.cell? ⟨b, o + 4, none⟩ = some (.slice y0.aa y0.al y0.ac) ∧ w'.cell? ⟨b, o + 5, none⟩ = some (.slice y0.ka y0.kl y0.kc) ∧ w'.cell? ⟨b, o + 6, none⟩ = some (.int .i64 y1.kind) ∧ w'.cell? ⟨b, o + 6 + 1, none⟩ = some (.string y1.text) ∧ w'.cell? ⟨b, o + 6 + 2, none⟩ = some (.int .i64 y1.n) ∧ w'.cell? ⟨b, o + 6 + 3, none⟩ = some (.slice y1.sa y1.sl y1.sc) ∧ w'.cell? ⟨b, o + 6 + 4, none⟩ = some (.slice y1.aa y1.al y1.ac) ∧ w'.cell? ⟨b, o + 6 + 5, none⟩ = some (.slice y1.ka y1.kl y1.kc))
    (first | (with_reducible exact S0.out) | (with_reducible exact HS5.out) | (with_reducible exact S6.out) | (with_reducible exact S7.out) | go_keep | ((try dsimp only); (repeat' apply And.intro); (all_goals go_keep)))
    (first
      | (go_at_call 23; (with_reducible refine (HN1.out _ (by first | exact HB5.out | exact HB5.out.drew)).mono ?_); rintro e w6 ⟨z1, rfl, hr1, hb6⟩; simp only [TV.val, TV.cells]; have HBf6 : Hid (Below w5.heap.size w5 w6) := Lib.hid ((by first | exact hb6 | exact (Below.refl _ _).drew.trans hb6)); have S6 := Lib.hid (HKP.out _ HBf6.out); have HB6 := Lib.hid (HB5.out.trans (HBf6.out.mono HB5.out.size)); have hz6 := HBf6.out.size; have HR1 := Lib.hid (RepS.mono (S' := fun b => S b ∨ (w.heap.size + 2 ≤ b ∧ b < w6.heap.size)) hr1 (fun b h => by rcases h with h | h; exact .inl h; exact .inr (by have h1 := h.1; have h2 := h.2; (first | (change w5.heap.size ≤ b at h1) | skip); omega))); clear hr1 hb6)
      | (go_at_call 46; (refine (rone_calls HNN.out HV.out y0 z1 _ (fun b => S b ∨ (w.heap.size + 2 ≤ b ∧ b < w6.heap.size)) (fun b h => by rcases h with h | h; (have h2 := hS b h; have h3 := HB5.out.size; omega); exact h.2) ((RR0.out.below HB6.out hS).mono (fun _ h => .inl h)) HR1.out).mono ?_); rintro e w7 ⟨yy, rfl, hr, hb7⟩; simp only [TV.val, TV.cells]; have HBf7 : Hid (Below w5.heap.size w5 w7) := Lib.hid (HBf6.out.trans (hb7.mono HBf6.out.size)); have S7 := Lib.hid (HKP.out _ HBf7.out); have HB7 := Lib.hid (HB5.out.trans (HBf7.out.mono HB5.out.size)); have hz7 := HBf7.out.size; have HR := Lib.hid (RepS.mono (S' := fun b => S b ∨ (w.heap.size + 2 ≤ b ∧ b < w7.heap.size)) hr (fun b h => by have h4 := hb7.size; rcases h with (h | h) | h; exact .inl h; exact .inr (by omega); exact .inr (by omega))); clear hr hb7; have R6 : Box w7 (w.heap.size + 1) zeroTV := RR5.out.below HBf7.out (by omega); obtain ⟨r0, r1, r2, r3, r4, r5, rf⟩ := R6; simp only [zeroTV] at r0 r1 r2 r3 r4 r5))
  all_goals
    go_wp2_with fail
    refine bodyPost_ret (v := yy.val) (by simp [results, Tryz.results23, TV.val, TV.cells, r0, r1, r2, r3, r4, r5, rf, go_sem]) rfl ?_
    with_reducible exact pass_ends (rb := w.heap.size + 1) (k := 2) hS HR.out HB7.out (by omega) (by omega) _ _ _ _ _ _
end Go.Proofs.YtnnhbpgpkpbinaaGreat
