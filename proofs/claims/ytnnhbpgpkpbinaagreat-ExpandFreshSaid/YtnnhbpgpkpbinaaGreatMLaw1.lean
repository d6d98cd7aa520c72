/- The law's own functions: prim, begun. -/
import Derived.Test.YtnnhbpgpkpbinaaGreatMExp10
set_option linter.unusedVariables false
set_option linter.unusedSimpArgs false
namespace Go.Proofs.YtnnhbpgpkpbinaaGreat
open Go.RowKit

theorem prim25_calls (s : ByteArray) (w : World) :
    Calls Tryz.prog 19 #[.string s] w fun e w' => e = .returned (leafTV 20 s).val ∧ Below w.heap.size w w' := by
  go_enter Tryz.func19, Tryz.ntmps19
  go_wp2_with fail
  refine bodyPost_ret (v := .agg #[.int .i64 20, .string s, .int .i64 0, .slice none 0 0, .slice none 0 0, .slice none 0 0]) (by simp [results, Tryz.results19, go_sem]) rfl ?_
  exact ⟨rfl, by go_grown⟩

/-- what lies below a definition's term -/
structure Chain (w : World) (B : Nat) (v k : Int) (y : TV) (b1 o1 c1 b2 o2 c2 b3 o3 c3 : Nat) : Prop where
  kind : y.kind = 23
  n : y.n = v
  l1 : y.kl = 1
  k1 : y.ka = some ⟨b1, o1, none⟩
  c1 : y.kc = c1
  k2 : w.cell? ⟨b1, o1 + 5, none⟩ = some (.slice (some ⟨b2, o2, none⟩) 1 c2)
  s2 : w.cell? ⟨b2, o2, none⟩ = some (.int .i64 10)
  k3 : w.cell? ⟨b2, o2 + 5, none⟩ = some (.slice (some ⟨b3, o3, none⟩) 1 c3)
  s3 : w.cell? ⟨b3, o3, none⟩ = some (.int .i64 k)
  h1 : b1 < B
  h2 : b2 < B
  h3 : b3 < B
theorem chain_of {w : World} {B : Nat} {v : Int} {e : T} {y : TV} (hr : Rep w B (T.defT v e) y) : ∃ b1 o1 c1 b2 o2 c2 b3 o3 c3, Chain w B v e.kind y b1 o1 c1 b2 o2 c2 b3 o3 c3 := by
  obtain ⟨b1, o1, y1, e1, hb1, a1, r1, l1⟩ := kids1 hr rfl
  obtain ⟨b2, o2, y2, e2, hb2, a2, r2, l2⟩ := kids1 r1 rfl
  obtain ⟨b3, o3, y3, e3, hb3, a3, r3, l3⟩ := kids1 r2 rfl
  refine ⟨b1, o1, y.kc, b2, o2, y1.kc, b3, o3, y2.kc, ⟨hr.kind, hr.n, l1, e1, rfl, ?_, ?_, ?_, ?_, hb1, hb2, hb3⟩⟩
  · rw [← e2, ← l2]; exact a1.c5
  · rw [a2.c0, r2.kind]; rfl
  · rw [← e3, ← l3]; exact a2.c5
  · rw [a3.c0, r3.kind]
theorem Chain.later {w w' : World} {B B' : Nat} {v k : Int} {y : TV} {b1 o1 c1 b2 o2 c2 b3 o3 c3 : Nat} (h : Chain w B v k y b1 o1 c1 b2 o2 c2 b3 o3 c3) (hb : Below B' w w') (hB : B ≤ B') : Chain w' B v k y b1 o1 c1 b2 o2 c2 b3 o3 c3 := by
  obtain ⟨a, b, c, d, e, f, g, h, i, j, k, l⟩ := h
  exact ⟨a, b, c, d, e, (hb.cell (p := ⟨b1, o1 + 5, none⟩) (show b1 < B' by omega)).trans f, (hb.cell (p := ⟨b2, o2, none⟩) (show b2 < B' by omega)).trans g, (hb.cell (p := ⟨b2, o2 + 5, none⟩) (show b2 < B' by omega)).trans h, (hb.cell (p := ⟨b3, o3, none⟩) (show b3 < B' by omega)).trans i, j, k, l⟩

def plusT : T := .mk 20 (T.txt [43]) 0 [] [] []
theorem plus_rep (w : World) (B : Nat) : Rep w B plusT (leafTV 20 ⟨#[43]⟩) := Own.rep plusT _ _ (leaf_own w 20 ⟨#[43]⟩ (by decide) (by decide) (by decide)) (by simp)
theorem plus_of2 : T.ofE plusT 2 = 0 := by decide +kernel
theorem plus_of3 : T.ofE plusT 3 = 1 := by decide +kernel
theorem plus_noun : (T.noun plusT 2).kind = 4 := by decide +kernel
theorem ofT_def {t : T} {v : Int} (h : T.ofE t v = 0) : T.ofT t v = T.defT v (T.noun t v) := by rw [T.ofT, if_pos h]
theorem ofT_zero {t : T} {v : Int} (h : T.ofE t v ≠ 0) : T.ofT t v = T.zeroT := by rw [T.ofT, if_neg h]
/-- Of, told as facts -/
theorem of_later {t : T} {x : TV} {B : Nat} {v m : Int} {w W : World} (hm : T.ofE t v = m) (hr : Rep w B t x) (hB : B ≤ w.heap.size) (hb : Below w.heap.size w W) :
    Calls Tryz.prog 10 #[.agg #[.int .i64 x.kind, .string x.text, .int .i64 x.n, .slice x.sa x.sl x.sc, .slice x.aa x.al x.ac, .slice x.ka x.kl x.kc], .int .i64 v] W fun e w' => ∃ y, e = .returned (.tuple #[.agg #[.int .i64 y.kind, .string y.text, .int .i64 y.n, .slice y.sa y.sl y.sc, .slice y.aa y.al y.ac, .slice y.ka y.kl y.kc], .int .i64 m]) ∧ Rep w' w'.heap.size (T.ofT t v) y ∧ Below W.heap.size W w' := by
  refine (of_calls t x B v W (hr.below hb hB) (Nat.le_trans hB hb.size)).mono ?_
  rintro e w' ⟨y, F, rfl, hO, hF, hb'⟩
  exact ⟨y, by rw [hm]; rfl, hO.rep _ _ _ (fun b hb => hF.hi b hb), hb'⟩

set_option maxRecDepth 100000 in
set_option maxHeartbeats 4000000 in
theorem begun25_calls (w : World) : Calls Tryz.prog 6 #[] w fun e w' => e = .returned (.bool true) ∧ Below w.heap.size w w' := by
  go_enter Tryz.func6, Tryz.ntmps6
  go_wp2_with fail
  refine (prim25_calls _ _).mono ?_
  rintro e w1 ⟨rfl, hb1⟩
  have HB1 := Lib.hid hb1
  have H1 := Lib.hid (of_later plus_of2 (plus_rep w1 w1.heap.size) (Nat.le_refl _) (Below.refl _ w1))
  simp only [leafTV] at H1
  clear hb1
  simp only [leafTV, TV.val, TV.cells]
  go_wp2_with fail
  refine H1.out.mono ?_
  rintro e w2 ⟨y, rfl, hr, hb2⟩
  have HB2 := Lib.hid (HB1.out.trans (hb2.mono HB1.out.size))
  rw [ofT_def plus_of2] at hr
  obtain ⟨b1, o1, c1, b2, o2, c2, b3, o3, c3, hch⟩ := chain_of hr
  rw [plus_noun] at hch
  have HCH := Lib.hid hch
  clear hb2 hr hch
  go_upto_region 2 with fail
  have hba := (Below.refl w2.heap.size w2).alloc (Nat.le_refl _) (.cells y.cells 29)
  have hbox := Box.new w2 y 29
  have hch3 := HCH.out.later hba (Nat.le_refl _)
  simp only [TV.cells] at hba hbox hch3
  generalize w2.alloc (.cells #[.int .i64 y.kind, .string y.text, .int .i64 y.n, .slice y.sa y.sl y.sc, .slice y.aa y.al y.ac, .slice y.ka y.kl y.kc] 29) = w3 at hba hbox hch3 ⊢
  have HB3 := Lib.hid (HB2.out.trans (hba.mono HB2.out.size))
  have HX3 := Lib.hid hbox
  have HCH3 := Lib.hid hch3
  have hz3 := hbox.lt
  clear hba hbox hch3
  go_wp2_with fail
  refine (prim25_calls _ _).mono ?_
  rintro e w4 ⟨rfl, hb4⟩
  have HB4 := Lib.hid (HB3.out.trans (hb4.mono HB3.out.size))
  have HX4 := Lib.hid (HX3.out.below hb4 hz3)
  have HCH4 := Lib.hid (HCH3.out.later hb4 (by omega))
  have hz4 := HX4.out.lt
  have H4 := Lib.hid (of_later plus_of3 (plus_rep w4 w4.heap.size) (Nat.le_refl _) (Below.refl _ w4))
  simp only [leafTV] at H4
  clear hb4
  simp only [leafTV, TV.val, TV.cells]
  go_wp2_with fail
  refine H4.out.mono ?_
  rintro e w5 ⟨z, rfl, _, hb5⟩
  have HB5 := Lib.hid (HB4.out.trans (hb5.mono HB4.out.size))
  have HX5 := Lib.hid (HX4.out.below hb5 hz4)
  have HCH5 := Lib.hid (HCH4.out.later hb5 (by omega))
  have hz5 := HX5.out.lt
  clear hb5
  go_upto_region 3 with fail
  have hba := (Below.refl w5.heap.size w5).alloc (Nat.le_refl _) (.cells z.cells 29)
  have hbox := HX5.out.below hba hz5
  have hch6 := HCH5.out.later hba (by omega)
  simp only [TV.cells] at hba hbox hch6
  generalize w5.alloc (.cells #[.int .i64 z.kind, .string z.text, .int .i64 z.n, .slice z.sa z.sl z.sc, .slice z.aa z.al z.ac, .slice z.ka z.kl z.kc] 29) = w6 at hba hbox hch6 ⊢
  have HB6 := Lib.hid (HB5.out.trans (hba.mono HB5.out.size))
  obtain ⟨q0, q1, q2, q3, q4, q5, qf⟩ := hbox
  obtain ⟨p0, p1, p2, p3, p4, p5, p6, p7, p8, _, _, _⟩ := hch6
  rw [p0] at q0
  rw [p1] at q2
  rw [p2, p3] at q5
  clear hba p0 p1 p2 p3 p4
  go_wp2_with fail
  go_ret
  exact ⟨rfl, HB6.out⟩
end Go.Proofs.YtnnhbpgpkpbinaaGreat
