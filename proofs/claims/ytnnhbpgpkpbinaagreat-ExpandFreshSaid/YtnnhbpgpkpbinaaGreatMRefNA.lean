/- The document's answer, package abacusref25: Noun: prim. The document's answer, package abacusref25: Noun: plain. -/
import Derived.Test.YtnnhbpgpkpbinaaGreatMRefF
set_option linter.unusedVariables false
set_option linter.unusedSimpArgs false
namespace Go.Proofs.YtnnhbpgpkpbinaaGreat
open Go.RowKit

set_option maxRecDepth 100000 in
set_option maxHeartbeats 4000000 in
theorem rnoun_right_1 (xt : ByteArray) (xn : Int) (sa : Option Addr) (sl sc : Nat) (aa : Option Addr) (al ac : Nat) (ka : Option Addr) (kl kc : Nat) (w : World) (S : Nat → Prop) (hS : ∀ b, S b → b < w.heap.size) (hx : (xt.toList == [93]) = true) (hop : T.opensK 20 xt.data.toList 1 = true) :
    Calls Tryz.prog 23 #[.agg #[.int .i64 20, .string xt, .int .i64 xn, .slice sa sl sc, .slice aa al ac, .slice ka kl kc], .int .i64 1] w (TermPost S (T.yT) w) := by
  have B0 := Lib.hid (two_below w ⟨20, xt, xn, sa, sl, sc, aa, al, ac, ka, kl, kc⟩)
  have X0 := Lib.hid (two_box w ⟨20, xt, xn, sa, sl, sc, aa, al, ac, ka, kl, kc⟩)
  have R00 := Lib.hid (two_res w ⟨20, xt, xn, sa, sl, sc, aa, al, ac, ka, kl, kc⟩)
  have HP := Lib.hid (ropens_known (x := ⟨20, xt, xn, sa, sl, sc, aa, al, ac, ka, kl, kc⟩) (v := 1) (b := true) hop)
  simp only at B0 X0 R00 HP
  go_enter Tryz.func23, Tryz.ntmps23
  go_wp2_with fail
  refine (rnameT_calls _ _).mono ?_
  rintro e w1 ⟨rfl, hb1⟩
  have X1 := Lib.hid (X0.out.below hb1 (by simp only [World.size_alloc]; omega))
  have R1' := Lib.hid (R00.out.below hb1 (by simp only [World.size_alloc]; omega))
  have HB1 := Lib.hid (B0.out.trans (hb1.mono B0.out.size))
  have hz1 : w.heap.size + 2 ≤ w1.heap.size := by have := hb1.size; simp only [World.size_alloc] at this; omega
  clear hb1
  simp only [leafTV, TV.val, TV.cells]
  go_wp2_with fail
  refine (rnameT_calls _ _).mono ?_
  rintro e w2 ⟨rfl, hb2⟩
  have X2 := Lib.hid (X1.out.below hb2 (by omega))
  have R2' := Lib.hid (R1'.out.below hb2 (by omega))
  have HB2 := Lib.hid (HB1.out.trans (hb2.mono HB1.out.size))
  have hz2 : w.heap.size + 2 ≤ w2.heap.size := by have := hb2.size; omega
  clear hb2
  simp only [leafTV, TV.val, TV.cells]
  go_upto_region 2 with fail
  have hbx := (Box.new w2 (leafTV 2 ⟨#[120]⟩) 29).alloc (.cells (leafTV 2 ⟨#[121]⟩).cells 29)
  have hby := Box.new (w2.alloc (.cells (leafTV 2 ⟨#[120]⟩).cells 29)) (leafTV 2 ⟨#[121]⟩) 29
  have hba : Below w2.heap.size w2 ((w2.alloc (.cells (leafTV 2 ⟨#[120]⟩).cells 29)).alloc (.cells (leafTV 2 ⟨#[121]⟩).cells 29)) := by go_grown
  simp only [leafTV, TV.cells, World.size_alloc] at hbx hby hba
  generalize (w2.alloc (.cells #[.int .i64 2, .string ⟨#[120]⟩, .int .i64 0, .slice none 0 0, .slice none 0 0, .slice none 0 0] 29)).alloc (.cells #[.int .i64 2, .string ⟨#[121]⟩, .int .i64 0, .slice none 0 0, .slice none 0 0, .slice none 0 0] 29) = w3 at hbx hby hba ⊢
  have X3 := Lib.hid (X2.out.below hba (by omega))
  have R3' := Lib.hid (R2'.out.below hba (by omega))
  have HB3 := Lib.hid (HB2.out.trans (hba.mono HB2.out.size))
  have HX3 := Lib.hid hbx
  have HY3 := Lib.hid hby
  have hz3 : w2.heap.size + 1 < w3.heap.size := hby.lt
  clear hba hbx hby
  obtain ⟨q0, q1, q2, q3, q4, q5, qf⟩ := X3.out
  simp only at q0 q1 q2 q3 q4 q5
  go_wp2_with fail
  refine (HP.out _).mono ?_
  rintro e w4 ⟨rfl, hb4⟩
  have X4 := Lib.hid (X3.out.below hb4 (by omega))
  have R4' := Lib.hid (R3'.out.below hb4 (by omega))
  have HX4 := Lib.hid (HX3.out.below hb4 (by omega))
  have HY4 := Lib.hid (HY3.out.below hb4 (by omega))
  have HB4 := Lib.hid (HB3.out.trans (hb4.mono HB3.out.size))
  have hz4 : w2.heap.size + 1 < w4.heap.size := by have := hb4.size; omega
  have g41 : w.heap.size < w4.heap.size := by omega
  have g42 : w.heap.size + 1 < w4.heap.size := by omega
  have g43 : w2.heap.size < w4.heap.size := by omega
  clear hb4 q0 q1 q2 q3 q4 q5 qf
  obtain ⟨q0, q1, q2, q3, q4, q5, qf⟩ := X4.out
  obtain ⟨s0, s1, s2, s3, s4, s5, sf⟩ := HX4.out
  obtain ⟨t0, t1, t2, t3, t4, t5, tf⟩ := HY4.out
  simp only at q0 q1 q2 q3 q4 q5 s0 s1 s2 s3 s4 s5 t0 t1 t2 t3 t4 t5
  go_upto_region 13 with fail
  have hbf := Box.new w4 (leafTV 2 ⟨#[121]⟩) 29
  have hba := (Below.refl w4.heap.size w4).alloc (Nat.le_refl _) (.cells (leafTV 2 ⟨#[121]⟩).cells 29)
  simp only [leafTV, TV.cells, World.size_alloc] at hbf hba
  generalize w4.alloc (.cells #[.int .i64 2, .string ⟨#[121]⟩, .int .i64 0, .slice none 0 0, .slice none 0 0, .slice none 0 0] 29) = w5 at hbf hba ⊢
  have R5 := R4'.out.below hba (by omega)
  have Y5 := HY4.out.below hba (by omega)
  have HB5 := Lib.hid (HB4.out.trans (hba.mono HB4.out.size))
  have hz5 := hbf.lt
  clear hba q0 q1 q2 q3 q4 q5 qf s0 s1 s2 s3 s4 s5 sf t0 t1 t2 t3 t4 t5 tf
  have d3 : ¬ w2.heap.size = w.heap.size := by omega
  have d4 : ¬ w.heap.size = w2.heap.size := by omega
  have d5 : ¬ w4.heap.size = w.heap.size + 1 := by omega
  have d6 : ¬ w.heap.size + 1 = w4.heap.size := by omega
  obtain ⟨r0, r1, r2, r3, r4, r5, rf⟩ := R5
  simp only [zeroTV] at r0 r1 r2 r3 r4 r5
  have RF := Lib.hid (show RepS w5 S (T.yT) (leafTV 2 ⟨#[121]⟩) from rep_name _ _ _ (by decide))
  obtain ⟨y0', y1', y2', y3', y4', y5', yf'⟩ := Y5
  obtain ⟨f0', f1', f2', f3', f4', f5', ff'⟩ := hbf
  simp only at y0' y1' y2' y3' y4' y5' f0' f1' f2' f3' f4' f5'
  go_wp2_with fail
  refine bodyPost_ret (v := (leafTV 2 ⟨#[121]⟩).val) (by simp [results, Tryz.results23, leafTV, TV.val, TV.cells, r0, r1, r2, r3, r4, r5, rf, go_sem]) rfl ?_
  with_reducible exact pass_ends (rb := w.heap.size + 1) (k := 2) hS (RF.out.mono (fun _ h => .inl h)) HB5.out (by omega) (by omega) _ _ _ _ _ _
set_option maxRecDepth 100000 in
set_option maxHeartbeats 4000000 in
theorem rnoun_right_2 (xt : ByteArray) (xn : Int) (sa : Option Addr) (sl sc : Nat) (aa : Option Addr) (al ac : Nat) (ka : Option Addr) (kl kc : Nat) (w : World) (S : Nat → Prop) (hS : ∀ b, S b → b < w.heap.size) (hx : (xt.toList == [93]) = true) (hop : T.opensK 20 xt.data.toList 2 = true) :
    Calls Tryz.prog 23 #[.agg #[.int .i64 20, .string xt, .int .i64 xn, .slice sa sl sc, .slice aa al ac, .slice ka kl kc], .int .i64 2] w (TermPost S (T.yT) w) := by
  have B0 := Lib.hid (two_below w ⟨20, xt, xn, sa, sl, sc, aa, al, ac, ka, kl, kc⟩)
  have X0 := Lib.hid (two_box w ⟨20, xt, xn, sa, sl, sc, aa, al, ac, ka, kl, kc⟩)
  have R00 := Lib.hid (two_res w ⟨20, xt, xn, sa, sl, sc, aa, al, ac, ka, kl, kc⟩)
  have HP := Lib.hid (ropens_known (x := ⟨20, xt, xn, sa, sl, sc, aa, al, ac, ka, kl, kc⟩) (v := 2) (b := true) hop)
  simp only at B0 X0 R00 HP
  go_enter Tryz.func23, Tryz.ntmps23
  go_wp2_with fail
  refine (rnameT_calls _ _).mono ?_
  rintro e w1 ⟨rfl, hb1⟩
  have X1 := Lib.hid (X0.out.below hb1 (by simp only [World.size_alloc]; omega))
  have R1' := Lib.hid (R00.out.below hb1 (by simp only [World.size_alloc]; omega))
  have HB1 := Lib.hid (B0.out.trans (hb1.mono B0.out.size))
  have hz1 : w.heap.size + 2 ≤ w1.heap.size := by have := hb1.size; simp only [World.size_alloc] at this; omega
  clear hb1
  simp only [leafTV, TV.val, TV.cells]
  go_wp2_with fail
  refine (rnameT_calls _ _).mono ?_
  rintro e w2 ⟨rfl, hb2⟩
  have X2 := Lib.hid (X1.out.below hb2 (by omega))
  have R2' := Lib.hid (R1'.out.below hb2 (by omega))
  have HB2 := Lib.hid (HB1.out.trans (hb2.mono HB1.out.size))
  have hz2 : w.heap.size + 2 ≤ w2.heap.size := by have := hb2.size; omega
  clear hb2
  simp only [leafTV, TV.val, TV.cells]
  go_upto_region 2 with fail
  have hbx := (Box.new w2 (leafTV 2 ⟨#[120]⟩) 29).alloc (.cells (leafTV 2 ⟨#[121]⟩).cells 29)
  have hby := Box.new (w2.alloc (.cells (leafTV 2 ⟨#[120]⟩).cells 29)) (leafTV 2 ⟨#[121]⟩) 29
  have hba : Below w2.heap.size w2 ((w2.alloc (.cells (leafTV 2 ⟨#[120]⟩).cells 29)).alloc (.cells (leafTV 2 ⟨#[121]⟩).cells 29)) := by go_grown
  simp only [leafTV, TV.cells, World.size_alloc] at hbx hby hba
  generalize (w2.alloc (.cells #[.int .i64 2, .string ⟨#[120]⟩, .int .i64 0, .slice none 0 0, .slice none 0 0, .slice none 0 0] 29)).alloc (.cells #[.int .i64 2, .string ⟨#[121]⟩, .int .i64 0, .slice none 0 0, .slice none 0 0, .slice none 0 0] 29) = w3 at hbx hby hba ⊢
  have X3 := Lib.hid (X2.out.below hba (by omega))
  have R3' := Lib.hid (R2'.out.below hba (by omega))
  have HB3 := Lib.hid (HB2.out.trans (hba.mono HB2.out.size))
  have HX3 := Lib.hid hbx
  have HY3 := Lib.hid hby
  have hz3 : w2.heap.size + 1 < w3.heap.size := hby.lt
  clear hba hbx hby
  obtain ⟨q0, q1, q2, q3, q4, q5, qf⟩ := X3.out
  simp only at q0 q1 q2 q3 q4 q5
  go_wp2_with fail
  refine (HP.out _).mono ?_
  rintro e w4 ⟨rfl, hb4⟩
  have X4 := Lib.hid (X3.out.below hb4 (by omega))
  have R4' := Lib.hid (R3'.out.below hb4 (by omega))
  have HX4 := Lib.hid (HX3.out.below hb4 (by omega))
  have HY4 := Lib.hid (HY3.out.below hb4 (by omega))
  have HB4 := Lib.hid (HB3.out.trans (hb4.mono HB3.out.size))
  have hz4 : w2.heap.size + 1 < w4.heap.size := by have := hb4.size; omega
  have g41 : w.heap.size < w4.heap.size := by omega
  have g42 : w.heap.size + 1 < w4.heap.size := by omega
  have g43 : w2.heap.size < w4.heap.size := by omega
  clear hb4 q0 q1 q2 q3 q4 q5 qf
  obtain ⟨q0, q1, q2, q3, q4, q5, qf⟩ := X4.out
  obtain ⟨s0, s1, s2, s3, s4, s5, sf⟩ := HX4.out
  obtain ⟨t0, t1, t2, t3, t4, t5, tf⟩ := HY4.out
  simp only at q0 q1 q2 q3 q4 q5 s0 s1 s2 s3 s4 s5 t0 t1 t2 t3 t4 t5
  go_upto_region 13 with fail
  have hbf := Box.new w4 (leafTV 2 ⟨#[120]⟩) 29
  have hba := (Below.refl w4.heap.size w4).alloc (Nat.le_refl _) (.cells (leafTV 2 ⟨#[120]⟩).cells 29)
  simp only [leafTV, TV.cells, World.size_alloc] at hbf hba
  generalize w4.alloc (.cells #[.int .i64 2, .string ⟨#[120]⟩, .int .i64 0, .slice none 0 0, .slice none 0 0, .slice none 0 0] 29) = w5 at hbf hba ⊢
  have R5 := R4'.out.below hba (by omega)
  have Y5 := HY4.out.below hba (by omega)
  have HB5 := Lib.hid (HB4.out.trans (hba.mono HB4.out.size))
  have hz5 := hbf.lt
  clear hba q0 q1 q2 q3 q4 q5 qf s0 s1 s2 s3 s4 s5 sf t0 t1 t2 t3 t4 t5 tf
  have d3 : ¬ w2.heap.size = w.heap.size := by omega
  have d4 : ¬ w.heap.size = w2.heap.size := by omega
  have d5 : ¬ w4.heap.size = w.heap.size + 1 := by omega
  have d6 : ¬ w.heap.size + 1 = w4.heap.size := by omega
  obtain ⟨r0, r1, r2, r3, r4, r5, rf⟩ := R5
  simp only [zeroTV] at r0 r1 r2 r3 r4 r5
  have RF := Lib.hid (show RepS w5 S (T.yT) (leafTV 2 ⟨#[121]⟩) from rep_name _ _ _ (by decide))
  obtain ⟨y0', y1', y2', y3', y4', y5', yf'⟩ := Y5
  obtain ⟨f0', f1', f2', f3', f4', f5', ff'⟩ := hbf
  simp only at y0' y1' y2' y3' y4' y5' f0' f1' f2' f3' f4' f5'
  go_wp2_with fail
  refine bodyPost_ret (v := (leafTV 2 ⟨#[121]⟩).val) (by simp [results, Tryz.results23, leafTV, TV.val, TV.cells, r0, r1, r2, r3, r4, r5, rf, go_sem]) rfl ?_
  with_reducible exact pass_ends (rb := w.heap.size + 1) (k := 2) hS (RF.out.mono (fun _ h => .inl h)) HB5.out (by omega) (by omega) _ _ _ _ _ _
set_option maxRecDepth 100000 in
set_option maxHeartbeats 4000000 in
theorem rnoun_left_1 (xt : ByteArray) (xn : Int) (sa : Option Addr) (sl sc : Nat) (aa : Option Addr) (al ac : Nat) (ka : Option Addr) (kl kc : Nat) (w : World) (S : Nat → Prop) (hS : ∀ b, S b → b < w.heap.size) (hx : (xt.toList == [93]) = false) (hop : T.opensK 20 xt.data.toList 1 = true) :
    Calls Tryz.prog 23 #[.agg #[.int .i64 20, .string xt, .int .i64 xn, .slice sa sl sc, .slice aa al ac, .slice ka kl kc], .int .i64 1] w (TermPost S (T.leftT 1) w) := by
  have B0 := Lib.hid (two_below w ⟨20, xt, xn, sa, sl, sc, aa, al, ac, ka, kl, kc⟩)
  have X0 := Lib.hid (two_box w ⟨20, xt, xn, sa, sl, sc, aa, al, ac, ka, kl, kc⟩)
  have R00 := Lib.hid (two_res w ⟨20, xt, xn, sa, sl, sc, aa, al, ac, ka, kl, kc⟩)
  have HP := Lib.hid (ropens_known (x := ⟨20, xt, xn, sa, sl, sc, aa, al, ac, ka, kl, kc⟩) (v := 1) (b := true) hop)
  simp only at B0 X0 R00 HP
  go_enter Tryz.func23, Tryz.ntmps23
  go_wp2_with fail
  refine (rnameT_calls _ _).mono ?_
  rintro e w1 ⟨rfl, hb1⟩
  have X1 := Lib.hid (X0.out.below hb1 (by simp only [World.size_alloc]; omega))
  have R1' := Lib.hid (R00.out.below hb1 (by simp only [World.size_alloc]; omega))
  have HB1 := Lib.hid (B0.out.trans (hb1.mono B0.out.size))
  have hz1 : w.heap.size + 2 ≤ w1.heap.size := by have := hb1.size; simp only [World.size_alloc] at this; omega
  clear hb1
  simp only [leafTV, TV.val, TV.cells]
  go_wp2_with fail
  refine (rnameT_calls _ _).mono ?_
  rintro e w2 ⟨rfl, hb2⟩
  have X2 := Lib.hid (X1.out.below hb2 (by omega))
  have R2' := Lib.hid (R1'.out.below hb2 (by omega))
  have HB2 := Lib.hid (HB1.out.trans (hb2.mono HB1.out.size))
  have hz2 : w.heap.size + 2 ≤ w2.heap.size := by have := hb2.size; omega
  clear hb2
  simp only [leafTV, TV.val, TV.cells]
  go_upto_region 2 with fail
  have hbx := (Box.new w2 (leafTV 2 ⟨#[120]⟩) 29).alloc (.cells (leafTV 2 ⟨#[121]⟩).cells 29)
  have hby := Box.new (w2.alloc (.cells (leafTV 2 ⟨#[120]⟩).cells 29)) (leafTV 2 ⟨#[121]⟩) 29
  have hba : Below w2.heap.size w2 ((w2.alloc (.cells (leafTV 2 ⟨#[120]⟩).cells 29)).alloc (.cells (leafTV 2 ⟨#[121]⟩).cells 29)) := by go_grown
  simp only [leafTV, TV.cells, World.size_alloc] at hbx hby hba
  generalize (w2.alloc (.cells #[.int .i64 2, .string ⟨#[120]⟩, .int .i64 0, .slice none 0 0, .slice none 0 0, .slice none 0 0] 29)).alloc (.cells #[.int .i64 2, .string ⟨#[121]⟩, .int .i64 0, .slice none 0 0, .slice none 0 0, .slice none 0 0] 29) = w3 at hbx hby hba ⊢
  have X3 := Lib.hid (X2.out.below hba (by omega))
  have R3' := Lib.hid (R2'.out.below hba (by omega))
  have HB3 := Lib.hid (HB2.out.trans (hba.mono HB2.out.size))
  have HX3 := Lib.hid hbx
  have HY3 := Lib.hid hby
  have hz3 : w2.heap.size + 1 < w3.heap.size := hby.lt
  clear hba hbx hby
  obtain ⟨q0, q1, q2, q3, q4, q5, qf⟩ := X3.out
  simp only at q0 q1 q2 q3 q4 q5
  go_wp2_with fail
  refine (HP.out _).mono ?_
  rintro e w4 ⟨rfl, hb4⟩
  have X4 := Lib.hid (X3.out.below hb4 (by omega))
  have R4' := Lib.hid (R3'.out.below hb4 (by omega))
  have HX4 := Lib.hid (HX3.out.below hb4 (by omega))
  have HY4 := Lib.hid (HY3.out.below hb4 (by omega))
  have HB4 := Lib.hid (HB3.out.trans (hb4.mono HB3.out.size))
  have hz4 : w2.heap.size + 1 < w4.heap.size := by have := hb4.size; omega
  have g41 : w.heap.size < w4.heap.size := by omega
  have g42 : w.heap.size + 1 < w4.heap.size := by omega
  have g43 : w2.heap.size < w4.heap.size := by omega
  clear hb4 q0 q1 q2 q3 q4 q5 qf
  obtain ⟨q0, q1, q2, q3, q4, q5, qf⟩ := X4.out
  obtain ⟨s0, s1, s2, s3, s4, s5, sf⟩ := HX4.out
  obtain ⟨t0, t1, t2, t3, t4, t5, tf⟩ := HY4.out
  simp only at q0 q1 q2 q3 q4 q5 s0 s1 s2 s3 s4 s5 t0 t1 t2 t3 t4 t5
  go_upto_region 14 with fail
  have hbf := Box.new w4 (leafTV 2 ⟨#[121]⟩) 29
  have hba := (Below.refl w4.heap.size w4).alloc (Nat.le_refl _) (.cells (leafTV 2 ⟨#[121]⟩).cells 29)
  simp only [leafTV, TV.cells, World.size_alloc] at hbf hba
  generalize w4.alloc (.cells #[.int .i64 2, .string ⟨#[121]⟩, .int .i64 0, .slice none 0 0, .slice none 0 0, .slice none 0 0] 29) = w5 at hbf hba ⊢
  have R5 := R4'.out.below hba (by omega)
  have Y5 := HY4.out.below hba (by omega)
  have HB5 := Lib.hid (HB4.out.trans (hba.mono HB4.out.size))
  have hz5 := hbf.lt
  clear hba q0 q1 q2 q3 q4 q5 qf s0 s1 s2 s3 s4 s5 sf t0 t1 t2 t3 t4 t5 tf
  have d3 : ¬ w2.heap.size = w.heap.size := by omega
  have d4 : ¬ w.heap.size = w2.heap.size := by omega
  have d5 : ¬ w4.heap.size = w.heap.size + 1 := by omega
  have d6 : ¬ w.heap.size + 1 = w4.heap.size := by omega
  obtain ⟨r0, r1, r2, r3, r4, r5, rf⟩ := R5
  simp only [zeroTV] at r0 r1 r2 r3 r4 r5
  have RF := Lib.hid (show RepS w5 S (T.leftT 1) (leafTV 2 ⟨#[121]⟩) from rep_name _ _ _ (by decide))
  obtain ⟨y0', y1', y2', y3', y4', y5', yf'⟩ := Y5
  obtain ⟨f0', f1', f2', f3', f4', f5', ff'⟩ := hbf
  simp only at y0' y1' y2' y3' y4' y5' f0' f1' f2' f3' f4' f5'
  go_wp2_with fail
  refine bodyPost_ret (v := (leafTV 2 ⟨#[121]⟩).val) (by simp [results, Tryz.results23, leafTV, TV.val, TV.cells, r0, r1, r2, r3, r4, r5, rf, go_sem]) rfl ?_
  with_reducible exact pass_ends (rb := w.heap.size + 1) (k := 2) hS (RF.out.mono (fun _ h => .inl h)) HB5.out (by omega) (by omega) _ _ _ _ _ _
set_option maxRecDepth 100000 in
set_option maxHeartbeats 4000000 in
theorem rnoun_left_2 (xt : ByteArray) (xn : Int) (sa : Option Addr) (sl sc : Nat) (aa : Option Addr) (al ac : Nat) (ka : Option Addr) (kl kc : Nat) (w : World) (S : Nat → Prop) (hS : ∀ b, S b → b < w.heap.size) (hx : (xt.toList == [93]) = false) (hop : T.opensK 20 xt.data.toList 2 = true) :
    Calls Tryz.prog 23 #[.agg #[.int .i64 20, .string xt, .int .i64 xn, .slice sa sl sc, .slice aa al ac, .slice ka kl kc], .int .i64 2] w (TermPost S (T.leftT 2) w) := by
  have B0 := Lib.hid (two_below w ⟨20, xt, xn, sa, sl, sc, aa, al, ac, ka, kl, kc⟩)
  have X0 := Lib.hid (two_box w ⟨20, xt, xn, sa, sl, sc, aa, al, ac, ka, kl, kc⟩)
  have R00 := Lib.hid (two_res w ⟨20, xt, xn, sa, sl, sc, aa, al, ac, ka, kl, kc⟩)
  have HP := Lib.hid (ropens_known (x := ⟨20, xt, xn, sa, sl, sc, aa, al, ac, ka, kl, kc⟩) (v := 2) (b := true) hop)
  simp only at B0 X0 R00 HP
  go_enter Tryz.func23, Tryz.ntmps23
  go_wp2_with fail
  refine (rnameT_calls _ _).mono ?_
  rintro e w1 ⟨rfl, hb1⟩
  have X1 := Lib.hid (X0.out.below hb1 (by simp only [World.size_alloc]; omega))
  have R1' := Lib.hid (R00.out.below hb1 (by simp only [World.size_alloc]; omega))
  have HB1 := Lib.hid (B0.out.trans (hb1.mono B0.out.size))
  have hz1 : w.heap.size + 2 ≤ w1.heap.size := by have := hb1.size; simp only [World.size_alloc] at this; omega
  clear hb1
  simp only [leafTV, TV.val, TV.cells]
  go_wp2_with fail
  refine (rnameT_calls _ _).mono ?_
  rintro e w2 ⟨rfl, hb2⟩
  have X2 := Lib.hid (X1.out.below hb2 (by omega))
  have R2' := Lib.hid (R1'.out.below hb2 (by omega))
  have HB2 := Lib.hid (HB1.out.trans (hb2.mono HB1.out.size))
  have hz2 : w.heap.size + 2 ≤ w2.heap.size := by have := hb2.size; omega
  clear hb2
  simp only [leafTV, TV.val, TV.cells]
  go_upto_region 2 with fail
  have hbx := (Box.new w2 (leafTV 2 ⟨#[120]⟩) 29).alloc (.cells (leafTV 2 ⟨#[121]⟩).cells 29)
  have hby := Box.new (w2.alloc (.cells (leafTV 2 ⟨#[120]⟩).cells 29)) (leafTV 2 ⟨#[121]⟩) 29
  have hba : Below w2.heap.size w2 ((w2.alloc (.cells (leafTV 2 ⟨#[120]⟩).cells 29)).alloc (.cells (leafTV 2 ⟨#[121]⟩).cells 29)) := by go_grown
  simp only [leafTV, TV.cells, World.size_alloc] at hbx hby hba
  generalize (w2.alloc (.cells #[.int .i64 2, .string ⟨#[120]⟩, .int .i64 0, .slice none 0 0, .slice none 0 0, .slice none 0 0] 29)).alloc (.cells #[.int .i64 2, .string ⟨#[121]⟩, .int .i64 0, .slice none 0 0, .slice none 0 0, .slice none 0 0] 29) = w3 at hbx hby hba ⊢
  have X3 := Lib.hid (X2.out.below hba (by omega))
  have R3' := Lib.hid (R2'.out.below hba (by omega))
  have HB3 := Lib.hid (HB2.out.trans (hba.mono HB2.out.size))
  have HX3 := Lib.hid hbx
  have HY3 := Lib.hid hby
  have hz3 : w2.heap.size + 1 < w3.heap.size := hby.lt
  clear hba hbx hby
  obtain ⟨q0, q1, q2, q3, q4, q5, qf⟩ := X3.out
  simp only at q0 q1 q2 q3 q4 q5
  go_wp2_with fail
  refine (HP.out _).mono ?_
  rintro e w4 ⟨rfl, hb4⟩
  have X4 := Lib.hid (X3.out.below hb4 (by omega))
  have R4' := Lib.hid (R3'.out.below hb4 (by omega))
  have HX4 := Lib.hid (HX3.out.below hb4 (by omega))
  have HY4 := Lib.hid (HY3.out.below hb4 (by omega))
  have HB4 := Lib.hid (HB3.out.trans (hb4.mono HB3.out.size))
  have hz4 : w2.heap.size + 1 < w4.heap.size := by have := hb4.size; omega
  have g41 : w.heap.size < w4.heap.size := by omega
  have g42 : w.heap.size + 1 < w4.heap.size := by omega
  have g43 : w2.heap.size < w4.heap.size := by omega
  clear hb4 q0 q1 q2 q3 q4 q5 qf
  obtain ⟨q0, q1, q2, q3, q4, q5, qf⟩ := X4.out
  obtain ⟨s0, s1, s2, s3, s4, s5, sf⟩ := HX4.out
  obtain ⟨t0, t1, t2, t3, t4, t5, tf⟩ := HY4.out
  simp only at q0 q1 q2 q3 q4 q5 s0 s1 s2 s3 s4 s5 t0 t1 t2 t3 t4 t5
  go_upto_region 14 with fail
  have hbf := Box.new w4 (leafTV 2 ⟨#[120]⟩) 29
  have hba := (Below.refl w4.heap.size w4).alloc (Nat.le_refl _) (.cells (leafTV 2 ⟨#[120]⟩).cells 29)
  simp only [leafTV, TV.cells, World.size_alloc] at hbf hba
  generalize w4.alloc (.cells #[.int .i64 2, .string ⟨#[120]⟩, .int .i64 0, .slice none 0 0, .slice none 0 0, .slice none 0 0] 29) = w5 at hbf hba ⊢
  have R5 := R4'.out.below hba (by omega)
  have Y5 := HY4.out.below hba (by omega)
  have HB5 := Lib.hid (HB4.out.trans (hba.mono HB4.out.size))
  have hz5 := hbf.lt
  clear hba q0 q1 q2 q3 q4 q5 qf s0 s1 s2 s3 s4 s5 sf t0 t1 t2 t3 t4 t5 tf
  have d3 : ¬ w2.heap.size = w.heap.size := by omega
  have d4 : ¬ w.heap.size = w2.heap.size := by omega
  have d5 : ¬ w4.heap.size = w.heap.size + 1 := by omega
  have d6 : ¬ w.heap.size + 1 = w4.heap.size := by omega
  obtain ⟨r0, r1, r2, r3, r4, r5, rf⟩ := R5
  simp only [zeroTV] at r0 r1 r2 r3 r4 r5
  have RF := Lib.hid (show RepS w5 S (T.leftT 2) (leafTV 2 ⟨#[120]⟩) from rep_name _ _ _ (by decide))
  obtain ⟨y0', y1', y2', y3', y4', y5', yf'⟩ := Y5
  obtain ⟨f0', f1', f2', f3', f4', f5', ff'⟩ := hbf
  simp only at y0' y1' y2' y3' y4' y5' f0' f1' f2' f3' f4' f5'
  go_wp2_with fail
  refine bodyPost_ret (v := (leafTV 2 ⟨#[120]⟩).val) (by simp [results, Tryz.results23, leafTV, TV.val, TV.cells, r0, r1, r2, r3, r4, r5, rf, go_sem]) rfl ?_
  with_reducible exact pass_ends (rb := w.heap.size + 1) (k := 2) hS (RF.out.mono (fun _ h => .inl h)) HB5.out (by omega) (by omega) _ _ _ _ _ _
end Go.Proofs.YtnnhbpgpkpbinaaGreat

namespace Go.Proofs.YtnnhbpgpkpbinaaGreat
open Go.RowKit

set_option maxRecDepth 100000 in
set_option maxHeartbeats 4000000 in
theorem rnoun_plain_1 (t : T) (x : TV) (w : World) (S : Nat → Prop) (hS : ∀ b, S b → b < w.heap.size) (hr : RepS w S t x) (hop : T.opensK x.kind x.text.data.toList 1 = false) :
    Calls Tryz.prog 23 #[.agg #[.int .i64 x.kind, .string x.text, .int .i64 x.n, .slice x.sa x.sl x.sc, .slice x.aa x.al x.ac, .slice x.ka x.kl x.kc], .int .i64 1] w (TermPost S (T.monT t T.yT) w) := by
  have RR := Lib.hid hr
  clear hr
  have B0 := Lib.hid (two_below w x)
  have X0 := Lib.hid (two_box w x)
  have R00 := Lib.hid (two_res w x)
  have HP := Lib.hid (ropens_known (x := x) (v := 1) (b := false) hop)
  go_enter Tryz.func23, Tryz.ntmps23
  go_wp2_with fail
  refine (rnameT_calls _ _).mono ?_
  rintro e w1 ⟨rfl, hb1⟩
  have X1 := Lib.hid (X0.out.below hb1 (by simp only [World.size_alloc]; omega))
  have R1' := Lib.hid (R00.out.below hb1 (by simp only [World.size_alloc]; omega))
  have HB1 := Lib.hid (B0.out.trans (hb1.mono B0.out.size))
  have hz1 : w.heap.size + 2 ≤ w1.heap.size := by have := hb1.size; simp only [World.size_alloc] at this; omega
  clear hb1
  simp only [leafTV, TV.val, TV.cells]
  go_wp2_with fail
  refine (rnameT_calls _ _).mono ?_
  rintro e w2 ⟨rfl, hb2⟩
  have X2 := Lib.hid (X1.out.below hb2 (by omega))
  have R2' := Lib.hid (R1'.out.below hb2 (by omega))
  have HB2 := Lib.hid (HB1.out.trans (hb2.mono HB1.out.size))
  have hz2 : w.heap.size + 2 ≤ w2.heap.size := by have := hb2.size; omega
  clear hb2
  simp only [leafTV, TV.val, TV.cells]
  go_upto_region 2 with fail
  have hbx := (Box.new w2 (leafTV 2 ⟨#[120]⟩) 29).alloc (.cells (leafTV 2 ⟨#[121]⟩).cells 29)
  have hby := Box.new (w2.alloc (.cells (leafTV 2 ⟨#[120]⟩).cells 29)) (leafTV 2 ⟨#[121]⟩) 29
  have hba : Below w2.heap.size w2 ((w2.alloc (.cells (leafTV 2 ⟨#[120]⟩).cells 29)).alloc (.cells (leafTV 2 ⟨#[121]⟩).cells 29)) := by go_grown
  simp only [leafTV, TV.cells, World.size_alloc] at hbx hby hba
  generalize (w2.alloc (.cells #[.int .i64 2, .string ⟨#[120]⟩, .int .i64 0, .slice none 0 0, .slice none 0 0, .slice none 0 0] 29)).alloc (.cells #[.int .i64 2, .string ⟨#[121]⟩, .int .i64 0, .slice none 0 0, .slice none 0 0, .slice none 0 0] 29) = w3 at hbx hby hba ⊢
  have X3 := Lib.hid (X2.out.below hba (by omega))
  have R3' := Lib.hid (R2'.out.below hba (by omega))
  have HB3 := Lib.hid (HB2.out.trans (hba.mono HB2.out.size))
  have HX3 := Lib.hid hbx
  have HY3 := Lib.hid hby
  have hz3 : w2.heap.size + 1 < w3.heap.size := hby.lt
  clear hba hbx hby
  obtain ⟨q0, q1, q2, q3, q4, q5, qf⟩ := X3.out
  go_wp2_with fail
  refine (HP.out _).mono ?_
  rintro e w4 ⟨rfl, hb4⟩
  have X4 := Lib.hid (X3.out.below hb4 (by omega))
  have R4' := Lib.hid (R3'.out.below hb4 (by omega))
  have HX4 := Lib.hid (HX3.out.below hb4 (by omega))
  have HY4 := Lib.hid (HY3.out.below hb4 (by omega))
  have HB4 := Lib.hid (HB3.out.trans (hb4.mono HB3.out.size))
  have hz4 : w2.heap.size + 1 < w4.heap.size := by have := hb4.size; omega
  have g41 : w.heap.size < w4.heap.size := by omega
  have g42 : w.heap.size + 1 < w4.heap.size := by omega
  have g43 : w2.heap.size < w4.heap.size := by omega
  clear hb4 q0 q1 q2 q3 q4 q5 qf
  obtain ⟨q0, q1, q2, q3, q4, q5, qf⟩ := X4.out
  obtain ⟨s0, s1, s2, s3, s4, s5, sf⟩ := HX4.out
  obtain ⟨t0, t1, t2, t3, t4, t5, tf⟩ := HY4.out
  simp only at s0 s1 s2 s3 s4 s5 t0 t1 t2 t3 t4 t5
  have HT := Lib.hid (rterm_two (w := w4) (S := S) (fun b h => by have h2 := hS b h; have h3 := HB4.out.size; omega) 3 (by omega) (RR.out.below HB4.out hS) (show RepS _ _ T.yT (leafTV 2 ⟨#[121]⟩) from rep_name _ _ _ (by decide)))
  simp only [leafTV] at HT
  go_wp2_with fail
  (with_reducible refine HT.out.mono ?_)
  rintro e w6 ⟨yy, rfl, hr, hb6⟩
  simp only [TV.val, TV.cells]
  have R6 : Box w6 (w.heap.size + 1) zeroTV := (R4'.out.alloc _).below hb6 (by simp only [World.size_alloc]; omega)
  have HB6 : Hid (Below w.heap.size w w6) := Lib.hid ((HB4.out.alloc HB4.out.size _).trans (hb6.mono (by have h3 := HB4.out.size; simp only [World.size_alloc]; omega)))
  have HR := Lib.hid (RepS.mono (S' := fun b => S b ∨ (w.heap.size + 2 ≤ b ∧ b < w6.heap.size)) hr (fun b h => by rcases h with h | h; exact .inl h; exact .inr (by simp only [World.size_alloc] at h; omega)))
  clear hr hb6
  obtain ⟨r0, r1, r2, r3, r4, r5, rf⟩ := R6
  simp only [zeroTV] at r0 r1 r2 r3 r4 r5
  go_wp2_with fail
  refine bodyPost_ret (v := yy.val) (by simp [results, Tryz.results23, TV.val, TV.cells, r0, r1, r2, r3, r4, r5, rf, go_sem]) rfl ?_
  unfold T.monT
  with_reducible exact pass_ends (rb := w.heap.size + 1) (k := 2) hS HR.out HB6.out (by omega) (by omega) _ _ _ _ _ _
set_option maxRecDepth 100000 in
set_option maxHeartbeats 4000000 in
theorem rnoun_plain_2 (t : T) (x : TV) (w : World) (S : Nat → Prop) (hS : ∀ b, S b → b < w.heap.size) (hr : RepS w S t x) (hop : T.opensK x.kind x.text.data.toList 2 = false) :
    Calls Tryz.prog 23 #[.agg #[.int .i64 x.kind, .string x.text, .int .i64 x.n, .slice x.sa x.sl x.sc, .slice x.aa x.al x.ac, .slice x.ka x.kl x.kc], .int .i64 2] w (TermPost S (T.dyT t (T.nameT [120]) T.yT) w) := by
  have RR := Lib.hid hr
  clear hr
  have B0 := Lib.hid (two_below w x)
  have X0 := Lib.hid (two_box w x)
  have R00 := Lib.hid (two_res w x)
  have HP := Lib.hid (ropens_known (x := x) (v := 2) (b := false) hop)
  go_enter Tryz.func23, Tryz.ntmps23
  go_wp2_with fail
  refine (rnameT_calls _ _).mono ?_
  rintro e w1 ⟨rfl, hb1⟩
  have X1 := Lib.hid (X0.out.below hb1 (by simp only [World.size_alloc]; omega))
  have R1' := Lib.hid (R00.out.below hb1 (by simp only [World.size_alloc]; omega))
  have HB1 := Lib.hid (B0.out.trans (hb1.mono B0.out.size))
  have hz1 : w.heap.size + 2 ≤ w1.heap.size := by have := hb1.size; simp only [World.size_alloc] at this; omega
  clear hb1
  simp only [leafTV, TV.val, TV.cells]
  go_wp2_with fail
  refine (rnameT_calls _ _).mono ?_
  rintro e w2 ⟨rfl, hb2⟩
  have X2 := Lib.hid (X1.out.below hb2 (by omega))
  have R2' := Lib.hid (R1'.out.below hb2 (by omega))
  have HB2 := Lib.hid (HB1.out.trans (hb2.mono HB1.out.size))
  have hz2 : w.heap.size + 2 ≤ w2.heap.size := by have := hb2.size; omega
  clear hb2
  simp only [leafTV, TV.val, TV.cells]
  go_upto_region 2 with fail
  have hbx := (Box.new w2 (leafTV 2 ⟨#[120]⟩) 29).alloc (.cells (leafTV 2 ⟨#[121]⟩).cells 29)
  have hby := Box.new (w2.alloc (.cells (leafTV 2 ⟨#[120]⟩).cells 29)) (leafTV 2 ⟨#[121]⟩) 29
  have hba : Below w2.heap.size w2 ((w2.alloc (.cells (leafTV 2 ⟨#[120]⟩).cells 29)).alloc (.cells (leafTV 2 ⟨#[121]⟩).cells 29)) := by go_grown
  simp only [leafTV, TV.cells, World.size_alloc] at hbx hby hba
  generalize (w2.alloc (.cells #[.int .i64 2, .string ⟨#[120]⟩, .int .i64 0, .slice none 0 0, .slice none 0 0, .slice none 0 0] 29)).alloc (.cells #[.int .i64 2, .string ⟨#[121]⟩, .int .i64 0, .slice none 0 0, .slice none 0 0, .slice none 0 0] 29) = w3 at hbx hby hba ⊢
  have X3 := Lib.hid (X2.out.below hba (by omega))
  have R3' := Lib.hid (R2'.out.below hba (by omega))
  have HB3 := Lib.hid (HB2.out.trans (hba.mono HB2.out.size))
  have HX3 := Lib.hid hbx
  have HY3 := Lib.hid hby
  have hz3 : w2.heap.size + 1 < w3.heap.size := hby.lt
  clear hba hbx hby
  obtain ⟨q0, q1, q2, q3, q4, q5, qf⟩ := X3.out
  go_wp2_with fail
  refine (HP.out _).mono ?_
  rintro e w4 ⟨rfl, hb4⟩
  have X4 := Lib.hid (X3.out.below hb4 (by omega))
  have R4' := Lib.hid (R3'.out.below hb4 (by omega))
  have HX4 := Lib.hid (HX3.out.below hb4 (by omega))
  have HY4 := Lib.hid (HY3.out.below hb4 (by omega))
  have HB4 := Lib.hid (HB3.out.trans (hb4.mono HB3.out.size))
  have hz4 : w2.heap.size + 1 < w4.heap.size := by have := hb4.size; omega
  have g41 : w.heap.size < w4.heap.size := by omega
  have g42 : w.heap.size + 1 < w4.heap.size := by omega
  have g43 : w2.heap.size < w4.heap.size := by omega
  clear hb4 q0 q1 q2 q3 q4 q5 qf
  obtain ⟨q0, q1, q2, q3, q4, q5, qf⟩ := X4.out
  obtain ⟨s0, s1, s2, s3, s4, s5, sf⟩ := HX4.out
  obtain ⟨t0, t1, t2, t3, t4, t5, tf⟩ := HY4.out
  simp only at s0 s1 s2 s3 s4 s5 t0 t1 t2 t3 t4 t5
  have HT := Lib.hid (rterm_three (w := w4) (S := S) (fun b h => by have h2 := hS b h; have h3 := HB4.out.size; omega) 4 (by omega) (RR.out.below HB4.out hS) (show RepS _ _ (T.nameT [120]) (leafTV 2 ⟨#[120]⟩) from rep_name _ _ _ (by decide)) (show RepS _ _ T.yT (leafTV 2 ⟨#[121]⟩) from rep_name _ _ _ (by decide)))
  simp only [leafTV] at HT
  go_wp2_with fail
  (with_reducible refine HT.out.mono ?_)
  rintro e w6 ⟨yy, rfl, hr, hb6⟩
  simp only [TV.val, TV.cells]
  have R6 : Box w6 (w.heap.size + 1) zeroTV := (R4'.out.alloc _).below hb6 (by simp only [World.size_alloc]; omega)
  have HB6 : Hid (Below w.heap.size w w6) := Lib.hid ((HB4.out.alloc HB4.out.size _).trans (hb6.mono (by have h3 := HB4.out.size; simp only [World.size_alloc]; omega)))
  have HR := Lib.hid (RepS.mono (S' := fun b => S b ∨ (w.heap.size + 2 ≤ b ∧ b < w6.heap.size)) hr (fun b h => by rcases h with h | h; exact .inl h; exact .inr (by simp only [World.size_alloc] at h; omega)))
  clear hr hb6
  obtain ⟨r0, r1, r2, r3, r4, r5, rf⟩ := R6
  simp only [zeroTV] at r0 r1 r2 r3 r4 r5
  go_wp2_with fail
  refine bodyPost_ret (v := yy.val) (by simp [results, Tryz.results23, TV.val, TV.cells, r0, r1, r2, r3, r4, r5, rf, go_sem]) rfl ?_
  unfold T.dyT
  with_reducible exact pass_ends (rb := w.heap.size + 1) (k := 2) hS HR.out HB6.out (by omega) (by omega) _ _ _ _ _ _
end Go.Proofs.YtnnhbpgpkpbinaaGreat
