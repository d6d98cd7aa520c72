/- The document's answer, package abacusref25: others, where Noun is known. The document's answer, package abacusref25: one, two. The document's answer, package abacusref25: what Noun's ways want. -/
import Derived.Test.YtnnhbpgpkpbinaaGreatMRefE
import Derived.Deep.RegionHeld3
import Derived.Test.YtnnhbpgpkpbinaaGreatMOpen8
set_option linter.unusedVariables false
set_option linter.unusedSimpArgs false
namespace Go.Proofs.YtnnhbpgpkpbinaaGreat
open Go.RowKit

def NounRef (t : T) : Prop := Verb t → ∀ (x : TV) (v : Int) (w : World) (S : Nat → Prop), (∀ b, S b → b < w.heap.size) → RepS w S t x → (v = 1 ∨ v = 2) →
  Calls Tryz.prog 23 #[x.val, .int .i64 v] w (TermPost S (T.noun t v) w)
def OthersRef (t : T) : Prop := Verb t → ∀ (x : TV) (v : Int) (w : World) (S : Nat → Prop), (∀ b, S b → b < w.heap.size) → RepS w S t x → (v = 1 ∨ v = 2) →
  Calls Tryz.prog 71 #[x.val, .int .i64 v] w (TermPost S (T.other t v) w)
theorem ropens_known {x : TV} {v : Int} {b : Bool} (hb : T.opensK x.kind x.text.data.toList v = b) (W : World) :
    Calls Tryz.prog 44 #[.agg #[.int .i64 x.kind, .string x.text, .int .i64 x.n, .slice x.sa x.sl x.sc, .slice x.aa x.al x.ac, .slice x.ka x.kl x.kc], .int .i64 v] W fun e w' => e = .returned (.bool b) ∧ Below W.heap.size W w' := by
  have := ropens_calls x v W
  rw [hb] at this
  exact this
/-- the argument itself is answered -/
theorem self_ends {w w1 : World} {S : Nat → Prop} {t : T} {x : TV} {rb : Nat} (hS : ∀ b, S b → b < w.heap.size) (hr : RepS w S t x) (hb : Below w.heap.size w w1) (hrb : w.heap.size ≤ rb) (a0 a1 a2 a3 a4 a5 : Value) :
    TermPost S t w (.returned x.val) ((((((w1.setCell ⟨rb, 0, none⟩ a0).setCell ⟨rb, 1, none⟩ a1).setCell ⟨rb, 2, none⟩ a2).setCell ⟨rb, 3, none⟩ a3).setCell ⟨rb, 4, none⟩ a4).setCell ⟨rb, 5, none⟩ a5) :=
  term_ends (S3 := S) (hr.below hb hS) hb hrb (fun h => by have := hS _ h; omega) (fun _ h => .inl h) _ _ _ _ _ _
/-- what a callee answers behind the result's variable -/
theorem Adds.behind {S : Nat → Prop} {w W w' : World} {k : Nat} (hW : w.heap.size + k ≤ W.heap.size) : ∀ b, Adds S W w' b → S b ∨ (w.heap.size + k ≤ b ∧ b < w'.heap.size) := by
  rintro b (h | h)
  · exact .inl h
  · exact .inr ⟨by omega, h.2⟩
/-- an answer behind the result's variable, handed on -/
theorem pass_ends {w w2 : World} {S : Nat → Prop} {u : T} {y : TV} {rb k : Nat} (hS : ∀ b, S b → b < w.heap.size) (hr : RepS w2 (fun b => S b ∨ (w.heap.size + k ≤ b ∧ b < w2.heap.size)) u y) (hb : Below w.heap.size w w2) (hrb : w.heap.size ≤ rb) (hrk : rb < w.heap.size + k) (a0 a1 a2 a3 a4 a5 : Value) :
    TermPost S u w (.returned y.val) ((((((w2.setCell ⟨rb, 0, none⟩ a0).setCell ⟨rb, 1, none⟩ a1).setCell ⟨rb, 2, none⟩ a2).setCell ⟨rb, 3, none⟩ a3).setCell ⟨rb, 4, none⟩ a4).setCell ⟨rb, 5, none⟩ a5) := by
  refine term_ends hr hb hrb ?_ ?_ _ _ _ _ _ _
  · rintro (h | h)
    · have := hS _ h; omega
    · omega
  · rintro b (h | h)
    · exact .inl h
    · exact .inr (by omega)

set_option maxRecDepth 100000 in
set_option maxHeartbeats 1000000 in
theorem others_of {t : T} (hn : NounRef t) : OthersRef t := by
  intro hv x v w S hS hr h12
  have hop : T.opens t v = T.opensK x.kind x.text.data.toList v := by rw [T.opens, ← hr.kind, ← hr.text]
  have hkd := hr.kind
  have HR := Lib.hid hr
  have B0 := Lib.hid (two_below w x)
  have X0 := Lib.hid (two_box w x)
  have R0 := Lib.hid (two_res w x)
  have Z0 := Lib.hid (two_size w x)
  simp only [TV.val, TV.cells]
  by_cases h20 : x.kind = 20
  · have HO := Lib.hid (show T.other t v = t from by rw [T.other, T.otherOf, if_pos (.inl (by rw [← hkd]; exact h20))])
    have hd : (x.kind == 20) = true := by simp [h20]
    clear hr hn hop hkd h20
    go_enter Tryz.func71, Tryz.ntmps71
    go_wp2_with fail
    refine bodyPost_ret (v := x.val) (by simp [results, Tryz.results71, TV.val, TV.cells, go_sem]) rfl ?_
    rw [HO.out]
    exact ⟨_, rfl, (RepS.below (B := w.heap.size) HR.out (by go_grown) hS).mono (fun _ h => .inl h), by go_grown⟩
  have hd : (x.kind == 20) = false := by simp [h20]
  cases hb : T.opensK x.kind x.text.data.toList v
  · have HO := Lib.hid (show T.other t v = t from by rw [T.other, T.otherOf, if_pos (.inr (by rw [hop]; exact hb))])
    have HP := Lib.hid (ropens_known hb)
    clear hr hn hop hkd h20 hb
    go_enter Tryz.func71, Tryz.ntmps71
    go_wp2_with fail
    refine (HP.out _).mono ?_
    rintro e w0 ⟨rfl, hb0⟩
    have X1 : Box w0 w.heap.size x := X0.out.below hb0 (by simp only [World.size_alloc]; omega)
    have R1 : Box w0 (w.heap.size + 1) zeroTV := R0.out.below hb0 (by simp only [World.size_alloc]; omega)
    have HB0 := Lib.hid (B0.out.trans (hb0.mono B0.out.size))
    have hz0 : w.heap.size + 2 ≤ w0.heap.size := by have := hb0.size; simp at this; omega
    obtain ⟨q0, q1, q2, q3, q4, q5, qf⟩ := X1
    obtain ⟨r0, r1, r2, r3, r4, r5, rf⟩ := R1
    simp only [zeroTV] at r0 r1 r2 r3 r4 r5
    clear hb0
    go_wp2_with fail
    refine bodyPost_ret (v := x.val) (by simp [results, Tryz.results71, TV.val, TV.cells, r0, r1, r2, r3, r4, r5, rf, go_sem]) rfl ?_
    rw [HO.out]
    with_reducible exact self_ends hS HR.out HB0.out (by omega) _ _ _ _ _ _
  · have HO := Lib.hid (show T.other t v = T.defT v (T.noun t v) from by
      rw [T.other, T.otherOf, if_neg]
      rintro (h | h)
      · exact h20 (hkd.trans h)
      · rw [hop, hb] at h; cases h)
    have HP := Lib.hid (ropens_known hb)
    have HN := Lib.hid (fun (W : World) (h : Below w.heap.size w W) => hn hv x v W S (fun b hb => Nat.lt_of_lt_of_le (hS b hb) h.size) (hr.below h hS) h12)
    simp only [TV.val, TV.cells] at HN
    clear hr hn hop hkd h20 hb
    go_enter Tryz.func71, Tryz.ntmps71
    go_wp2_with fail
    refine (HP.out _).mono ?_
    rintro e w0 ⟨rfl, hb0⟩
    have X1 : Box w0 w.heap.size x := X0.out.below hb0 (by simp only [World.size_alloc]; omega)
    have R1 := Lib.hid (R0.out.below hb0 (by simp only [World.size_alloc]; omega))
    have HB0 := Lib.hid (B0.out.trans (hb0.mono B0.out.size))
    have hz0 : w.heap.size + 2 ≤ w0.heap.size := by have := hb0.size; simp at this; omega
    obtain ⟨q0, q1, q2, q3, q4, q5, qf⟩ := X1
    clear hb0
    go_wp2_with fail
    refine (HN.out _ HB0.out).mono ?_
    rintro e w1 ⟨y1, rfl, hr1, hb1⟩
    have R2 := Lib.hid (R1.out.below hb1 (by omega))
    have HB1 := Lib.hid (HB0.out.trans (hb1.mono HB0.out.size))
    have hz1 := hb1.size
    have HS1 := Lib.hid (Adds.below hS HB0.out hb1.size)
    have HR1 := Lib.hid (hr1.mono (Adds.behind hz0))
    clear hr1 hb1 q0 q1 q2 q3 q4 q5 qf
    simp only [TV.val, TV.cells]
    have hba := (Below.refl w1.heap.size w1).alloc (Nat.le_refl _) (.cells y1.cells 29)
    have HD := Lib.hid (rdefined_calls v (T.noun t v) y1 (w1.alloc (.cells y1.cells 29)) (fun b => S b ∨ (w.heap.size + 2 ≤ b ∧ b < w1.heap.size)) (fun b h => by
      rcases h with h | h
      · have := hS b h; simp; omega
      · simp; omega) h12 (HR1.out.below hba (fun b h => by
      rcases h with h | h
      · have := hS b h; omega
      · exact h.2)))
    have HBA := Lib.hid hba
    have R3 := Lib.hid (R2.out.below hba (by omega))
    simp only [TV.val, TV.cells] at HD HBA R3
    clear hba
    go_wp2_with fail
    refine HD.out.mono ?_
    rintro e w2 ⟨y2, rfl, hr2, hb2⟩
    have R4 : Box w2 (w.heap.size + 1) zeroTV := R3.out.below hb2 (by simp; omega)
    have HB2 := Lib.hid ((HB1.out.trans (HBA.out.mono HB1.out.size)).trans (hb2.mono (by simp; have := HB1.out.size; omega)))
    have hz2 : w1.heap.size + 1 ≤ w2.heap.size := by have := hb2.size; simpa using this
    have HR2 := Lib.hid (RepS.mono (S' := fun b => S b ∨ (w.heap.size + 2 ≤ b ∧ b < w2.heap.size)) hr2 (fun b h => by
      rcases h with (h | h) | h
      · exact .inl h
      · exact .inr (by omega)
      · exact .inr (by simp at h; omega)))
    clear hr2 hb2
    obtain ⟨r0, r1, r2, r3, r4, r5, rf⟩ := R4
    simp only [zeroTV] at r0 r1 r2 r3 r4 r5
    simp only [TV.val, TV.cells]
    go_wp2_with fail
    refine bodyPost_ret (v := y2.val) (by simp [results, Tryz.results71, TV.val, TV.cells, r0, r1, r2, r3, r4, r5, rf, go_sem]) rfl ?_
    rw [HO.out]
    with_reducible exact pass_ends hS HR2.out HB2.out (by omega) (by omega) _ _ _ _ _ _
end Go.Proofs.YtnnhbpgpkpbinaaGreat

namespace Go.Proofs.YtnnhbpgpkpbinaaGreat
open Go.RowKit

abbrev roneW (w : World) (x0 x1 : TV) : World := ((w.alloc (.cells #[.int .i64 x0.kind, .string x0.text, .int .i64 x0.n, .slice x0.sa x0.sl x0.sc, .slice x0.aa x0.al x0.ac, .slice x0.ka x0.kl x0.kc] 29)).alloc (.cells #[.int .i64 x1.kind, .string x1.text, .int .i64 x1.n, .slice x1.sa x1.sl x1.sc, .slice x1.aa x1.al x1.ac, .slice x1.ka x1.kl x1.kc] 29)).alloc (.cells #[.int .i64 0, .string ⟨#[]⟩, .int .i64 0, .slice none 0 0, .slice none 0 0, .slice none 0 0] 29)
theorem roneW_below (w : World) (x0 x1 : TV) : Below w.heap.size w (roneW w x0 x1) := by go_grown
theorem roneW_size (w : World) (x0 x1 : TV) : (roneW w x0 x1).heap.size = w.heap.size + 3 := by simp
theorem rone_box0 (w : World) (x0 x1 : TV) : Box (roneW w x0 x1) (w.heap.size) x0 := by
  have h := Box.new w x0 29
  have h' := ((h.alloc (.cells x1.cells 29)).alloc (.cells zeroTV.cells 29))
  simpa [TV.cells, zeroTV] using h'
theorem rone_box1 (w : World) (x0 x1 : TV) : Box (roneW w x0 x1) (w.heap.size + 1) x1 := by
  have h := Box.new (w.alloc (.cells #[.int .i64 x0.kind, .string x0.text, .int .i64 x0.n, .slice x0.sa x0.sl x0.sc, .slice x0.aa x0.al x0.ac, .slice x0.ka x0.kl x0.kc] 29)) x1 29
  have h' := (h.alloc (.cells zeroTV.cells 29))
  simpa [TV.cells, zeroTV] using h'
theorem rone_res (w : World) (x0 x1 : TV) : Box (roneW w x0 x1) (w.heap.size + 2) zeroTV := by
  have h := Box.new ((w.alloc (.cells #[.int .i64 x0.kind, .string x0.text, .int .i64 x0.n, .slice x0.sa x0.sl x0.sc, .slice x0.aa x0.al x0.ac, .slice x0.ka x0.kl x0.kc] 29)).alloc (.cells #[.int .i64 x1.kind, .string x1.text, .int .i64 x1.n, .slice x1.sa x1.sl x1.sc, .slice x1.aa x1.al x1.ac, .slice x1.ka x1.kl x1.kc] 29)) zeroTV 29
  simpa [TV.cells, zeroTV] using h

set_option maxRecDepth 100000 in
set_option maxHeartbeats 1000000 in
theorem rone_calls {u0 u1 : T} (hn : NounRef u0) (hv : Verb u0) (x0 x1 : TV) (w : World) (S : Nat → Prop) (hS : ∀ b, S b → b < w.heap.size) (h0 : RepS w S u0 x0) (h1 : RepS w S u1 x1) :
    Calls Tryz.prog 46 #[x0.val, x1.val] w (TermPost S (T.monT (T.other u0 1) u1) w) := by
  have HC := Lib.hid (fun (W : World) (h : Below w.heap.size w W) => others_of hn hv x0 1 W S (fun b hb => Nat.lt_of_lt_of_le (hS b hb) h.size) (h0.below h hS) (by omega))
  simp only [TV.val, TV.cells] at HC
  have B0 := Lib.hid (roneW_below w x0 x1)
  have Z0 := Lib.hid (roneW_size w x0 x1)
  have R0 := Lib.hid (rone_res w x0 x1)
  have X0 := Lib.hid (rone_box0 w x0 x1)
  have X1 := Lib.hid (rone_box1 w x0 x1)
  have S0 := Lib.hid (show (roneW w x0 x1).drew.cell? ⟨w.heap.size, 0, none⟩ = some (.int .i64 x0.kind) ∧ (roneW w x0 x1).drew.cell? ⟨w.heap.size, 1, none⟩ = some (.string x0.text) ∧ (roneW w x0 x1).drew.cell? ⟨w.heap.size, 2, none⟩ = some (.int .i64 x0.n) ∧ (roneW w x0 x1).drew.cell? ⟨w.heap.size, 3, none⟩ = some (.slice x0.sa x0.sl x0.sc) ∧ (roneW w x0 x1).drew.cell? ⟨w.heap.size, 4, none⟩ = some (.slice x0.aa x0.al x0.ac) ∧ (roneW w x0 x1).drew.cell? ⟨w.heap.size, 5, none⟩ = some (.slice x0.ka x0.kl x0.kc) ∧ (roneW w x0 x1).drew.cell? ⟨w.heap.size + 1, 0, none⟩ = some (.int .i64 x1.kind) ∧ (roneW w x0 x1).drew.cell? ⟨w.heap.size + 1, 1, none⟩ = some (.string x1.text) ∧ (roneW w x0 x1).drew.cell? ⟨w.heap.size + 1, 2, none⟩ = some (.int .i64 x1.n) ∧ (roneW w x0 x1).drew.cell? ⟨w.heap.size + 1, 3, none⟩ = some (.slice x1.sa x1.sl x1.sc) ∧ (roneW w x0 x1).drew.cell? ⟨w.heap.size + 1, 4, none⟩ = some (.slice x1.aa x1.al x1.ac) ∧ (roneW w x0 x1).drew.cell? ⟨w.heap.size + 1, 5, none⟩ = some (.slice x1.ka x1.kl x1.kc) from ⟨X0.out.c0, X0.out.c1, X0.out.c2, X0.out.c3, X0.out.c4, X0.out.c5, X1.out.c0, X1.out.c1, X1.out.c2, X1.out.c3, X1.out.c4, X1.out.c5⟩)
  have H1 := Lib.hid h1
  have n01 : ¬ w.heap.size = w.heap.size + 1 := by omega
  have m01 : ¬ w.heap.size + 1 = w.heap.size := by omega
  have n02 : ¬ w.heap.size = w.heap.size + 1 + 1 := by omega
  have m02 : ¬ w.heap.size + 1 + 1 = w.heap.size := by omega
  have n12 : ¬ w.heap.size + 1 = w.heap.size + 1 + 1 := by omega
  have m12 : ¬ w.heap.size + 1 + 1 = w.heap.size + 1 := by omega
  clear hn hv h0 h1
  simp only [TV.val, TV.cells]
  go_enter Tryz.func46, Tryz.ntmps46
  go_wp2_with fail
  go_region_held3 (fun w' => w'.cell? ⟨w.heap.size, 0, none⟩ = some (.int .i64 x0.kind) ∧ w'.cell? ⟨w.heap.size, 1, none⟩ = some (.string x0.text) ∧ w'.cell? ⟨w.heap.size, 2, none⟩ = some (.int .i64 x0.n) ∧ w'.cell? ⟨w.heap.size, 3, none⟩ = some (.slice x0.sa x0.sl x0.sc) ∧ w'.cell? ⟨w.heap.size, 4, none⟩ = some (.slice x0.aa x0.al x0.ac) ∧ w'.cell? ⟨w.heap.size, 5, none⟩ = some (.slice x0.ka x0.kl x0.kc) ∧ w'.cell? ⟨w.heap.size + 1, 0, none⟩ = some (.int .i64 x1.kind) ∧ w'.cell? ⟨w.heap.size + 1, 1, none⟩ = some (.string x1.text) ∧ w'.cell? ⟨w.heap.size + 1, 2, none⟩ = some (.int .i64 x1.n) ∧ w'.cell? ⟨w.heap.size + 1, 3, none⟩ = some (.slice x1.sa x1.sl x1.sc) ∧ w'.cell? ⟨w.heap.size + 1, 4, none⟩ = some (.slice x1.aa x1.al x1.ac) ∧ w'.cell? ⟨w.heap.size + 1, 5, none⟩ = some (.slice x1.ka x1.kl x1.kc))
    (first | (with_reducible exact S0.out) | (with_reducible exact S2.out) | (with_reducible exact S1.out) | go_keep | ((try dsimp only); (repeat' apply And.intro); (all_goals go_keep)))
    (first
      | (go_at_call 71; (with_reducible refine (HC.out _ (by go_grown)).mono ?_); rintro e w1 ⟨z, rfl, hr1, hb1⟩; simp only [TV.val, TV.cells]; have Y0 : Box w1 (w.heap.size) x0 := (by first | exact X0.out.below hb1 (by simp; omega) | exact X0.out.below hb1 (by simp) | exact X0.out.drew.below hb1 (by simp; omega) | exact X0.out.drew.below hb1 (by simp)); have Y1 : Box w1 (w.heap.size + 1) x1 := (by first | exact X1.out.below hb1 (by simp; omega) | exact X1.out.below hb1 (by simp) | exact X1.out.drew.below hb1 (by simp; omega) | exact X1.out.drew.below hb1 (by simp)); have R1 : Box w1 (w.heap.size + 2) zeroTV := (by first | exact R0.out.below hb1 (by simp; omega) | exact R0.out.below hb1 (by simp) | exact R0.out.drew.below hb1 (by simp; omega) | exact R0.out.drew.below hb1 (by simp)); have S1 := Lib.hid (show w1.cell? ⟨w.heap.size, 0, none⟩ = some (.int .i64 x0.kind) ∧ w1.cell? ⟨w.heap.size, 1, none⟩ = some (.string x0.text) ∧ w1.cell? ⟨w.heap.size, 2, none⟩ = some (.int .i64 x0.n) ∧ w1.cell? ⟨w.heap.size, 3, none⟩ = some (.slice x0.sa x0.sl x0.sc) ∧ w1.cell? ⟨w.heap.size, 4, none⟩ = some (.slice x0.aa x0.al x0.ac) ∧ w1.cell? ⟨w.heap.size, 5, none⟩ = some (.slice x0.ka x0.kl x0.kc) ∧ w1.cell? ⟨w.heap.size + 1, 0, none⟩ = some (.int .i64 x1.kind) ∧ w1.cell? ⟨w.heap.size + 1, 1, none⟩ = some (.string x1.text) ∧ w1.cell? ⟨w.heap.size + 1, 2, none⟩ = some (.int .i64 x1.n) ∧ w1.cell? ⟨w.heap.size + 1, 3, none⟩ = some (.slice x1.sa x1.sl x1.sc) ∧ w1.cell? ⟨w.heap.size + 1, 4, none⟩ = some (.slice x1.aa x1.al x1.ac) ∧ w1.cell? ⟨w.heap.size + 1, 5, none⟩ = some (.slice x1.ka x1.kl x1.kc) from ⟨Y0.c0, Y0.c1, Y0.c2, Y0.c3, Y0.c4, Y0.c5, Y1.c0, Y1.c1, Y1.c2, Y1.c3, Y1.c4, Y1.c5⟩); have HB1 : Hid (Below w.heap.size w w1) := Lib.hid (Below.trans (by go_grown) (hb1.mono (by simp; omega))); have hz1 : w.heap.size + 3 ≤ w1.heap.size := (by have h1 := hb1.size; simp at h1; omega); have HR1 := Lib.hid (RepS.mono (S' := fun b => S b ∨ (w.heap.size + 3 ≤ b ∧ b < w1.heap.size)) hr1 (fun b h => (show S b ∨ (w.heap.size + 3 ≤ b ∧ b < w1.heap.size) by rcases h with h | h; exact .inl h; exact .inr (by simp at h; omega)))); clear hr1 hb1 Y0 Y1; have HT := Lib.hid (rterm_two (w := w1) (S := fun b => S b ∨ (w.heap.size + 3 ≤ b ∧ b < w1.heap.size)) (fun b h => by rcases h with h | h; (have h2 := hS b h; omega); exact h.2) 3 (by omega) HR1.out ((H1.out.below HB1.out hS).mono (fun _ h => .inl h))))
      | (go_at_call 42; (with_reducible refine HT.out.mono ?_); rintro e w2 ⟨y2, rfl, hr2, hb2⟩; simp only [TV.val, TV.cells]; have R2 : Box w2 (w.heap.size + 2) zeroTV := (R1.alloc _).below hb2 (by simp; omega); have hz2 : w1.heap.size + 1 ≤ w2.heap.size := (by have h1 := hb2.size; simpa using h1); have HB2 : Hid (Below w.heap.size w w2) := Lib.hid (Below.trans (HB1.out.alloc HB1.out.size _) (hb2.mono (by simp; omega))); have HR2 := Lib.hid (RepS.mono (S' := fun b => S b ∨ (w.heap.size + 3 ≤ b ∧ b < w2.heap.size)) hr2 (fun b h => by rcases h with (h | h) | h; exact .inl h; exact .inr (by omega); exact .inr (by simp at h; omega))); have HBA := Lib.hid (((Below.refl w1.heap.size w1).alloc (Nat.le_refl _) _).trans (hb2.mono (by simp))); clear hr2 hb2; have S2 := Lib.hid (show w2.cell? ⟨w.heap.size, 0, none⟩ = some (.int .i64 x0.kind) ∧ w2.cell? ⟨w.heap.size, 1, none⟩ = some (.string x0.text) ∧ w2.cell? ⟨w.heap.size, 2, none⟩ = some (.int .i64 x0.n) ∧ w2.cell? ⟨w.heap.size, 3, none⟩ = some (.slice x0.sa x0.sl x0.sc) ∧ w2.cell? ⟨w.heap.size, 4, none⟩ = some (.slice x0.aa x0.al x0.ac) ∧ w2.cell? ⟨w.heap.size, 5, none⟩ = some (.slice x0.ka x0.kl x0.kc) ∧ w2.cell? ⟨w.heap.size + 1, 0, none⟩ = some (.int .i64 x1.kind) ∧ w2.cell? ⟨w.heap.size + 1, 1, none⟩ = some (.string x1.text) ∧ w2.cell? ⟨w.heap.size + 1, 2, none⟩ = some (.int .i64 x1.n) ∧ w2.cell? ⟨w.heap.size + 1, 3, none⟩ = some (.slice x1.sa x1.sl x1.sc) ∧ w2.cell? ⟨w.heap.size + 1, 4, none⟩ = some (.slice x1.aa x1.al x1.ac) ∧ w2.cell? ⟨w.heap.size + 1, 5, none⟩ = some (.slice x1.ka x1.kl x1.kc) from ⟨(HBA.out.cell (p := ⟨w.heap.size, 0, none⟩) (by simp; omega)).trans S1.out.1, (HBA.out.cell (p := ⟨w.heap.size, 1, none⟩) (by simp; omega)).trans S1.out.2.1, (HBA.out.cell (p := ⟨w.heap.size, 2, none⟩) (by simp; omega)).trans S1.out.2.2.1, (HBA.out.cell (p := ⟨w.heap.size, 3, none⟩) (by simp; omega)).trans S1.out.2.2.2.1, (HBA.out.cell (p := ⟨w.heap.size, 4, none⟩) (by simp; omega)).trans S1.out.2.2.2.2.1, (HBA.out.cell (p := ⟨w.heap.size, 5, none⟩) (by simp; omega)).trans S1.out.2.2.2.2.2.1, (HBA.out.cell (p := ⟨w.heap.size + 1, 0, none⟩) (by simp; omega)).trans S1.out.2.2.2.2.2.2.1, (HBA.out.cell (p := ⟨w.heap.size + 1, 1, none⟩) (by simp; omega)).trans S1.out.2.2.2.2.2.2.2.1, (HBA.out.cell (p := ⟨w.heap.size + 1, 2, none⟩) (by simp; omega)).trans S1.out.2.2.2.2.2.2.2.2.1, (HBA.out.cell (p := ⟨w.heap.size + 1, 3, none⟩) (by simp; omega)).trans S1.out.2.2.2.2.2.2.2.2.2.1, (HBA.out.cell (p := ⟨w.heap.size + 1, 4, none⟩) (by simp; omega)).trans S1.out.2.2.2.2.2.2.2.2.2.2.1, (HBA.out.cell (p := ⟨w.heap.size + 1, 5, none⟩) (by simp; omega)).trans S1.out.2.2.2.2.2.2.2.2.2.2.2⟩); obtain ⟨r0, r1, r2, r3, r4, r5, rf⟩ := R2; simp only [zeroTV] at r0 r1 r2 r3 r4 r5))
  all_goals
    go_wp2_with fail
    refine bodyPost_ret (v := y2.val) (by simp [results, Tryz.results46, TV.val, TV.cells, r0, r1, r2, r3, r4, r5, rf, go_sem]) rfl ?_
    unfold T.monT
    with_reducible exact pass_ends (rb := w.heap.size + 1 + 1) (k := 3) hS HR2.out HB2.out (by omega) (by omega) _ _ _ _ _ _

abbrev rtwoW (w : World) (x0 x1 x2 : TV) : World := (((w.alloc (.cells #[.int .i64 x0.kind, .string x0.text, .int .i64 x0.n, .slice x0.sa x0.sl x0.sc, .slice x0.aa x0.al x0.ac, .slice x0.ka x0.kl x0.kc] 29)).alloc (.cells #[.int .i64 x1.kind, .string x1.text, .int .i64 x1.n, .slice x1.sa x1.sl x1.sc, .slice x1.aa x1.al x1.ac, .slice x1.ka x1.kl x1.kc] 29)).alloc (.cells #[.int .i64 x2.kind, .string x2.text, .int .i64 x2.n, .slice x2.sa x2.sl x2.sc, .slice x2.aa x2.al x2.ac, .slice x2.ka x2.kl x2.kc] 29)).alloc (.cells #[.int .i64 0, .string ⟨#[]⟩, .int .i64 0, .slice none 0 0, .slice none 0 0, .slice none 0 0] 29)
theorem rtwoW_below (w : World) (x0 x1 x2 : TV) : Below w.heap.size w (rtwoW w x0 x1 x2) := by go_grown
theorem rtwoW_size (w : World) (x0 x1 x2 : TV) : (rtwoW w x0 x1 x2).heap.size = w.heap.size + 4 := by simp
theorem rtwo_box0 (w : World) (x0 x1 x2 : TV) : Box (rtwoW w x0 x1 x2) (w.heap.size) x0 := by
  have h := Box.new w x0 29
  have h' := (((h.alloc (.cells x1.cells 29)).alloc (.cells x2.cells 29)).alloc (.cells zeroTV.cells 29))
  simpa [TV.cells, zeroTV] using h'
theorem rtwo_box1 (w : World) (x0 x1 x2 : TV) : Box (rtwoW w x0 x1 x2) (w.heap.size + 1) x1 := by
  have h := Box.new (w.alloc (.cells #[.int .i64 x0.kind, .string x0.text, .int .i64 x0.n, .slice x0.sa x0.sl x0.sc, .slice x0.aa x0.al x0.ac, .slice x0.ka x0.kl x0.kc] 29)) x1 29
  have h' := ((h.alloc (.cells x2.cells 29)).alloc (.cells zeroTV.cells 29))
  simpa [TV.cells, zeroTV] using h'
theorem rtwo_box2 (w : World) (x0 x1 x2 : TV) : Box (rtwoW w x0 x1 x2) (w.heap.size + 2) x2 := by
  have h := Box.new ((w.alloc (.cells #[.int .i64 x0.kind, .string x0.text, .int .i64 x0.n, .slice x0.sa x0.sl x0.sc, .slice x0.aa x0.al x0.ac, .slice x0.ka x0.kl x0.kc] 29)).alloc (.cells #[.int .i64 x1.kind, .string x1.text, .int .i64 x1.n, .slice x1.sa x1.sl x1.sc, .slice x1.aa x1.al x1.ac, .slice x1.ka x1.kl x1.kc] 29)) x2 29
  have h' := (h.alloc (.cells zeroTV.cells 29))
  simpa [TV.cells, zeroTV] using h'
theorem rtwo_res (w : World) (x0 x1 x2 : TV) : Box (rtwoW w x0 x1 x2) (w.heap.size + 3) zeroTV := by
  have h := Box.new (((w.alloc (.cells #[.int .i64 x0.kind, .string x0.text, .int .i64 x0.n, .slice x0.sa x0.sl x0.sc, .slice x0.aa x0.al x0.ac, .slice x0.ka x0.kl x0.kc] 29)).alloc (.cells #[.int .i64 x1.kind, .string x1.text, .int .i64 x1.n, .slice x1.sa x1.sl x1.sc, .slice x1.aa x1.al x1.ac, .slice x1.ka x1.kl x1.kc] 29)).alloc (.cells #[.int .i64 x2.kind, .string x2.text, .int .i64 x2.n, .slice x2.sa x2.sl x2.sc, .slice x2.aa x2.al x2.ac, .slice x2.ka x2.kl x2.kc] 29)) zeroTV 29
  simpa [TV.cells, zeroTV] using h

set_option maxRecDepth 100000 in
set_option maxHeartbeats 1000000 in
theorem rtwo_calls {u0 u1 u2 : T} (hn : NounRef u0) (hv : Verb u0) (x0 x1 x2 : TV) (w : World) (S : Nat → Prop) (hS : ∀ b, S b → b < w.heap.size) (h0 : RepS w S u0 x0) (h1 : RepS w S u1 x1) (h2 : RepS w S u2 x2) :
    Calls Tryz.prog 45 #[x0.val, x1.val, x2.val] w (TermPost S (T.dyT (T.other u0 2) u1 u2) w) := by
  have HC := Lib.hid (fun (W : World) (h : Below w.heap.size w W) => others_of hn hv x0 2 W S (fun b hb => Nat.lt_of_lt_of_le (hS b hb) h.size) (h0.below h hS) (by omega))
  simp only [TV.val, TV.cells] at HC
  have B0 := Lib.hid (rtwoW_below w x0 x1 x2)
  have Z0 := Lib.hid (rtwoW_size w x0 x1 x2)
  have R0 := Lib.hid (rtwo_res w x0 x1 x2)
  have X0 := Lib.hid (rtwo_box0 w x0 x1 x2)
  have X1 := Lib.hid (rtwo_box1 w x0 x1 x2)
  have X2 := Lib.hid (rtwo_box2 w x0 x1 x2)
  have S0 := Lib.hid (show (rtwoW w x0 x1 x2).drew.cell? ⟨w.heap.size, 0, none⟩ = some (.int .i64 x0.kind) ∧ (rtwoW w x0 x1 x2).drew.cell? ⟨w.heap.size, 1, none⟩ = some (.string x0.text) ∧ (rtwoW w x0 x1 x2).drew.cell? ⟨w.heap.size, 2, none⟩ = some (.int .i64 x0.n) ∧ (rtwoW w x0 x1 x2).drew.cell? ⟨w.heap.size, 3, none⟩ = some (.slice x0.sa x0.sl x0.sc) ∧ (rtwoW w x0 x1 x2).drew.cell? ⟨w.heap.size, 4, none⟩ = some (.slice x0.aa x0.al x0.ac) ∧ (rtwoW w x0 x1 x2).drew.cell? ⟨w.heap.size, 5, none⟩ = some (.slice x0.ka x0.kl x0.kc) ∧ (rtwoW w x0 x1 x2).drew.cell? ⟨w.heap.size + 1, 0, none⟩ = some (.int .i64 x1.kind) ∧ (rtwoW w x0 x1 x2).drew.cell? ⟨w.heap.size + 1, 1, none⟩ = some (.string x1.text) ∧ (rtwoW w x0 x1 x2).drew.cell? ⟨w.heap.size + 1, 2, none⟩ = some (.int .i64 x1.n) ∧ (rtwoW w x0 x1 x2).drew.cell? ⟨w.heap.size + 1, 3, none⟩ = some (.slice x1.sa x1.sl x1.sc) ∧ (rtwoW w x0 x1 x2).drew.cell? ⟨w.heap.size + 1, 4, none⟩ = some (.slice x1.aa x1.al x1.ac) ∧ (rtwoW w x0 x1 x2).drew.cell? ⟨w.heap.size + 1, 5, none⟩ = some (.slice x1.ka x1.kl x1.kc) ∧ (rtwoW w x0 x1 x2).drew.cell? ⟨w.heap.size + 1 + 1, 0, none⟩ = some (.int .i64 x2.kind) ∧ (rtwoW w x0 x1 x2).drew.cell? ⟨w.heap.size + 1 + 1, 1, none⟩ = some (.string x2.text) ∧ (rtwoW w x0 x1 x2).drew.cell? ⟨w.heap.size + 1 + 1, 2, none⟩ = some (.int .i64 x2.n) ∧ (rtwoW w x0 x1 x2).drew.cell? ⟨w.heap.size + 1 + 1, 3, none⟩ = some (.slice x2.sa x2.sl x2.sc) ∧ (rtwoW w x0 x1 x2).drew.cell? ⟨w.heap.size + 1 + 1, 4, none⟩ = some (.slice x2.aa x2.al x2.ac) ∧ (rtwoW w x0 x1 x2).drew.cell? ⟨w.heap.size + 1 + 1, 5, none⟩ = some (.slice x2.ka x2.kl x2.kc) from ⟨X0.out.c0, X0.out.c1, X0.out.c2, X0.out.c3, X0.out.c4, X0.out.c5, X1.out.c0, X1.out.c1, X1.out.c2, X1.out.c3, X1.out.c4, X1.out.c5, X2.out.c0, X2.out.c1, X2.out.c2, X2.out.c3, X2.out.c4, X2.out.c5⟩)
  have H1 := Lib.hid h1
  have H2 := Lib.hid h2
  have n01 : ¬ w.heap.size = w.heap.size + 1 := by omega
  have m01 : ¬ w.heap.size + 1 = w.heap.size := by omega
  have n02 : ¬ w.heap.size = w.heap.size + 1 + 1 := by omega
  have m02 : ¬ w.heap.size + 1 + 1 = w.heap.size := by omega
  have n03 : ¬ w.heap.size = w.heap.size + 1 + 1 + 1 := by omega
  have m03 : ¬ w.heap.size + 1 + 1 + 1 = w.heap.size := by omega
  have n12 : ¬ w.heap.size + 1 = w.heap.size + 1 + 1 := by omega
  have m12 : ¬ w.heap.size + 1 + 1 = w.heap.size + 1 := by omega
  have n13 : ¬ w.heap.size + 1 = w.heap.size + 1 + 1 + 1 := by omega
  have m13 : ¬ w.heap.size + 1 + 1 + 1 = w.heap.size + 1 := by omega
  have n23 : ¬ w.heap.size + 1 + 1 = w.heap.size + 1 + 1 + 1 := by omega
  have m23 : ¬ w.heap.size + 1 + 1 + 1 = w.heap.size + 1 + 1 := by omega
  clear hn hv h0 h1 h2
  simp only [TV.val, TV.cells]
  go_enter Tryz.func45, Tryz.ntmps45
  go_wp2_with fail
  go_region_held3 (fun w' => w'.cell? ⟨w.heap.size, 0, none⟩ = some (.int .i64 x0.kind) ∧ w'.cell? ⟨w.heap.size, 1, none⟩ = some (.string x0.text) ∧ w'.cell? ⟨w.heap.size, 2, none⟩ = some (.int .i64 x0.n) ∧ w'.cell? ⟨w.heap.size, 3, none⟩ = some (.slice x0.sa x0.sl x0.sc) ∧ w'.cell? ⟨w.heap.size, 4, none⟩ = some (.slice x0.aa x0.al x0.ac) ∧ w'.cell? ⟨w.heap.size, 5, none⟩ = some (.slice x0.ka x0.kl x0.kc) ∧ w'.cell? ⟨w.heap.size + 1, 0, none⟩ = some (.int .i64 x1.kind) ∧ w'.cell? ⟨w.heap.size + 1, 1, none⟩ = some (.string x1.text) ∧ w'.cell? ⟨w.heap.size + 1, 2, none⟩ = some (.int .i64 x1.n) ∧ w'.cell? ⟨w.heap.size + 1, 3, none⟩ = some (.slice x1.sa x1.sl x1.sc) ∧ w'.cell? ⟨w.heap.size + 1, 4, none⟩ = some (.slice x1.aa x1.al x1.ac) ∧ w'.cell? ⟨w.heap.size + 1, 5, none⟩ = some (.slice x1.ka x1.kl x1.kc) ∧ w'.cell? ⟨w.heap.size + 1 + 1, 0, none⟩ = some (.int .i64 x2.kind) ∧ w'.cell? ⟨w.heap.size + 1 + 1, 1, none⟩ = some (.string x2.text) ∧ w'.cell? ⟨w.heap.size + 1 + 1, 2, none⟩ = some (.int .i64 x2.n) ∧ w'.cell? ⟨w.heap.size + 1 + 1, 3, none⟩ = some (.slice x2.sa x2.sl x2.sc) ∧ w'.cell? ⟨w.heap.size + 1 + 1, 4, none⟩ = some (.slice x2.aa x2.al x2.ac) ∧ w'.cell? ⟨w.heap.size + 1 + 1, 5, none⟩ = some (.slice x2.ka x2.kl x2.kc))
    (first | (with_reducible exact S0.out) | (with_reducible exact S2.out) | (with_reducible exact S1.out) | go_keep | ((try dsimp only); (repeat' apply And.intro); (all_goals go_keep)))
    (first
      | (go_at_call 71; (with_reducible refine (HC.out _ (by go_grown)).mono ?_); rintro e w1 ⟨z, rfl, hr1, hb1⟩; simp only [TV.val, TV.cells]; have Y0 : Box w1 (w.heap.size) x0 := (by first | exact X0.out.below hb1 (by simp; omega) | exact X0.out.below hb1 (by simp) | exact X0.out.drew.below hb1 (by simp; omega) | exact X0.out.drew.below hb1 (by simp)); have Y1 : Box w1 (w.heap.size + 1) x1 := (by first | exact X1.out.below hb1 (by simp; omega) | exact X1.out.below hb1 (by simp) | exact X1.out.drew.below hb1 (by simp; omega) | exact X1.out.drew.below hb1 (by simp)); have Y2 : Box w1 (w.heap.size + 2) x2 := (by first | exact X2.out.below hb1 (by simp; omega) | exact X2.out.below hb1 (by simp) | exact X2.out.drew.below hb1 (by simp; omega) | exact X2.out.drew.below hb1 (by simp)); have R1 : Box w1 (w.heap.size + 3) zeroTV := (by first | exact R0.out.below hb1 (by simp; omega) | exact R0.out.below hb1 (by simp) | exact R0.out.drew.below hb1 (by simp; omega) | exact R0.out.drew.below hb1 (by simp)); have S1 := Lib.hid (show w1.cell? ⟨w.heap.size, 0, none⟩ = some (.int .i64 x0.kind) ∧ w1.cell? ⟨w.heap.size, 1, none⟩ = some (.string x0.text) ∧ w1.cell? ⟨w.heap.size, 2, none⟩ = some (.int .i64 x0.n) ∧ w1.cell? ⟨w.heap.size, 3, none⟩ = some (.slice x0.sa x0.sl x0.sc) ∧ w1.cell? ⟨w.heap.size, 4, none⟩ = some (.slice x0.aa x0.al x0.ac) ∧ w1.cell? ⟨w.heap.size, 5, none⟩ = some (.slice x0.ka x0.kl x0.kc) ∧ w1.cell? ⟨w.heap.size + 1, 0, none⟩ = some (.int .i64 x1.kind) ∧ w1.cell? ⟨w.heap.size + 1, 1, none⟩ = some (.string x1.text) ∧ w1.cell? ⟨w.heap.size + 1, 2, none⟩ = some (.int .i64 x1.n) ∧ w1.cell? ⟨w.heap.size + 1, 3, none⟩ = some (.slice x1.sa x1.sl x1.sc) ∧ w1.cell? ⟨w.heap.size + 1, 4, none⟩ = some (.slice x1.aa x1.al x1.ac) ∧ w1.cell? ⟨w.heap.size + 1, 5, none⟩ = some (.slice x1.ka x1.kl x1.kc) ∧ w1.cell? ⟨w.heap.size + 1 + 1, 0, none⟩ = some (.int .i64 x2.kind) ∧ w1.cell? ⟨w.heap.size + 1 + 1, 1, none⟩ = some (.string x2.text) ∧ w1.cell? ⟨w.heap.size + 1 + 1, 2, none⟩ = some (.int .i64 x2.n) ∧ w1.cell? ⟨w.heap.size + 1 + 1, 3, none⟩ = some (.slice x2.sa x2.sl x2.sc) ∧ w1.cell? ⟨w.heap.size + 1 + 1, 4, none⟩ = some (.slice x2.aa x2.al x2.ac) ∧ w1.cell? ⟨w.heap.size + 1 + 1, 5, none⟩ = some (.slice x2.ka x2.kl x2.kc) from ⟨Y0.c0, Y0.c1, Y0.c2, Y0.c3, Y0.c4, Y0.c5, Y1.c0, Y1.c1, Y1.c2, Y1.c3, Y1.c4, Y1.c5, Y2.c0, Y2.c1, Y2.c2, Y2.c3, Y2.c4, Y2.c5⟩); have HB1 : Hid (Below w.heap.size w w1) := Lib.hid (Below.trans (by go_grown) (hb1.mono (by simp; omega))); have hz1 : w.heap.size + 4 ≤ w1.heap.size := (by have h1 := hb1.size; simp at h1; omega); have HR1 := Lib.hid (RepS.mono (S' := fun b => S b ∨ (w.heap.size + 4 ≤ b ∧ b < w1.heap.size)) hr1 (fun b h => (show S b ∨ (w.heap.size + 4 ≤ b ∧ b < w1.heap.size) by rcases h with h | h; exact .inl h; exact .inr (by simp at h; omega)))); clear hr1 hb1 Y0 Y1 Y2; have HT := Lib.hid (rterm_three (w := w1) (S := fun b => S b ∨ (w.heap.size + 4 ≤ b ∧ b < w1.heap.size)) (fun b h => by rcases h with h | h; (have h2 := hS b h; omega); exact h.2) 4 (by omega) HR1.out ((H1.out.below HB1.out hS).mono (fun _ h => .inl h)) ((H2.out.below HB1.out hS).mono (fun _ h => .inl h))))
      | (go_at_call 42; (with_reducible refine HT.out.mono ?_); rintro e w2 ⟨y2, rfl, hr2, hb2⟩; simp only [TV.val, TV.cells]; have R2 : Box w2 (w.heap.size + 3) zeroTV := (R1.alloc _).below hb2 (by simp; omega); have hz2 : w1.heap.size + 1 ≤ w2.heap.size := (by have h1 := hb2.size; simpa using h1); have HB2 : Hid (Below w.heap.size w w2) := Lib.hid (Below.trans (HB1.out.alloc HB1.out.size _) (hb2.mono (by simp; omega))); have HR2 := Lib.hid (RepS.mono (S' := fun b => S b ∨ (w.heap.size + 4 ≤ b ∧ b < w2.heap.size)) hr2 (fun b h => by rcases h with (h | h) | h; exact .inl h; exact .inr (by omega); exact .inr (by simp at h; omega))); have HBA := Lib.hid (((Below.refl w1.heap.size w1).alloc (Nat.le_refl _) _).trans (hb2.mono (by simp))); clear hr2 hb2; have S2 := Lib.hid (show w2.cell? ⟨w.heap.size, 0, none⟩ = some (.int .i64 x0.kind) ∧ w2.cell? ⟨w.heap.size, 1, none⟩ = some (.string x0.text) ∧ w2.cell? ⟨w.heap.size, 2, none⟩ = some (.int .i64 x0.n) ∧ w2.cell? ⟨w.heap.size, 3, none⟩ = some (.slice x0.sa x0.sl x0.sc) ∧ w2.cell? ⟨w.heap.size, 4, none⟩ = some (.slice x0.aa x0.al x0.ac) ∧ w2.cell? ⟨w.heap.size, 5, none⟩ = some (.slice x0.ka x0.kl x0.kc) ∧ w2.cell? ⟨w.heap.size + 1, 0, none⟩ = some (.int .i64 x1.kind) ∧ w2.cell? ⟨w.heap.size + 1, 1, none⟩ = some (.string x1.text) ∧ w2.cell? ⟨w.heap.size + 1, 2, none⟩ = some (.int .i64 x1.n) ∧ w2.cell? ⟨w.heap.size + 1, 3, none⟩ = some (.slice x1.sa x1.sl x1.sc) ∧ w2.cell? ⟨w.heap.size + 1, 4, none⟩ = some (.slice x1.aa x1.al x1.ac) ∧ w2.cell? ⟨w.heap.size + 1, 5, none⟩ = some (.slice x1.ka x1.kl x1.kc) ∧ w2.cell? ⟨w.heap.size + 1 + 1, 0, none⟩ = some (.int .i64 x2.kind) ∧ w2.cell? ⟨w.heap.size + 1 + 1, 1, none⟩ = some (.string x2.text) ∧ w2.cell? ⟨w.heap.size + 1 + 1, 2, none⟩ = some (.int .i64 x2.n) ∧ w2.cell? ⟨w.heap.size + 1 + 1, 3, none⟩ = some (.slice x2.sa x2.sl x2.sc) ∧ w2.cell? ⟨w.heap.size + 1 + 1, 4, none⟩ = some (.slice x2.aa x2.al x2.ac) ∧ w2.cell? ⟨w.heap.size + 1 + 1, 5, none⟩ = some (.slice x2.ka x2.kl x2.kc) from ⟨(HBA.out.cell (p := ⟨w.heap.size, 0, none⟩) (by simp; omega)).trans S1.out.1, (HBA.out.cell (p := ⟨w.heap.size, 1, none⟩) (by simp; omega)).trans S1.out.2.1, (HBA.out.cell (p := ⟨w.heap.size, 2, none⟩) (by simp; omega)).trans S1.out.2.2.1, (HBA.out.cell (p := ⟨w.heap.size, 3, none⟩) (by simp; omega)).trans S1.out.2.2.2.1, (HBA.out.cell (p := ⟨w.heap.size, 4, none⟩) (by simp; omega)).trans S1.out.2.2.2.2.1, (HBA.out.cell (p := ⟨w.heap.size, 5, none⟩) (by simp; omega)).trans S1.out.2.2.2.2.2.1, (HBA.out.cell (p := ⟨w.heap.size + 1, 0, none⟩) (by simp; omega)).trans S1.out.2.2.2.2.2.2.1, (HBA.out.cell (p := ⟨w.heap.size + 1, 1, none⟩) (by simp; omega)).trans S1.out.2.2.2.2.2.2.2.1, (HBA.out.cell (p := ⟨w.heap.size + 1, 2, none⟩) (by simp; omega)).trans S1.out.2.2.2.2.2.2.2.2.1, (HBA.out.cell (p := ⟨w.heap.size + 1, 3, none⟩) (by simp; omega)).trans S1.out.2.2.2.2.2.2.2.2.2.1, (HBA.out.cell (p := ⟨w.heap.size + 1, 4, none⟩) (by simp; omega)).trans S1.out.2.2.2.2.2.2.2.2.2.2.1, (HBA.out.cell (p := ⟨w.heap.size + 1, 5, none⟩) (by simp; omega)).trans S1.out.2.2.2.2.2.2.2.2.2.2.2.1, (HBA.out.cell (p := ⟨w.heap.size + 2, 0, none⟩) (by simp; omega)).trans S1.out.2.2.2.2.2.2.2.2.2.2.2.2.1, (HBA.out.cell (p := ⟨w.heap.size + 2, 1, none⟩) (by simp; omega)).trans S1.out.2.2.2.2.2.2.2.2.2.2.2.2.2.1, (HBA.out.cell (p := ⟨w.heap.size + 2, 2, none⟩) (by simp; omega)).trans S1.out.2.2.2.2.2.2.2.2.2.2.2.2.2.2.1, (HBA.out.cell (p := ⟨w.heap.size + 2, 3, none⟩) (by simp; omega)).trans S1.out.2.2.2.2.2.2.2.2.2.2.2.2.2.2.2.1, (HBA.out.cell (p := ⟨w.heap.size + 2, 4, none⟩) (by simp; omega)).trans S1.out.2.2.2.2.2.2.2.2.2.2.2.2.2.2.2.2.1, (HBA.out.cell (p := ⟨w.heap.size + 2, 5, none⟩) (by simp; omega)).trans S1.out.2.2.2.2.2.2.2.2.2.2.2.2.2.2.2.2.2⟩); obtain ⟨r0, r1, r2, r3, r4, r5, rf⟩ := R2; simp only [zeroTV] at r0 r1 r2 r3 r4 r5))
  all_goals
    go_wp2_with fail
    refine bodyPost_ret (v := y2.val) (by simp [results, Tryz.results45, TV.val, TV.cells, r0, r1, r2, r3, r4, r5, rf, go_sem]) rfl ?_
    unfold T.dyT
    with_reducible exact pass_ends (rb := w.heap.size + 1 + 1 + 1) (k := 4) hS HR2.out HB2.out (by omega) (by omega) _ _ _ _ _ _
end Go.Proofs.YtnnhbpgpkpbinaaGreat

namespace Go.Proofs.YtnnhbpgpkpbinaaGreat
open Go.RowKit

/-- a pick's kids, one behind the other: at a round's head -/
structure PickS (w : World) (S : Nat → Prop) (tb : Nat) (l : List T) (k : Nat) (wr : World) (A : Option Addr) (c : Nat) (ys : List TV) : Prop where
  below : Below w.heap.size w wr
  box : Box wr tb (pickTV A k c)
  res : Box wr (w.heap.size + 1) zeroTV
  row : wr.ownsRow (tb + 1) 29 6 (.slice A k c) k (rowCells ys)
  len : ys.length = k
  reps : ∀ (j : Nat) (u : T), j < k → l[j]? = some u → ∃ y, ys[j]? = some y ∧ RepS wr (fun b => S b ∨ (tb + 1 ≤ b ∧ b < wr.heap.size ∧ (Value.slice A k c).ownBlock ≠ some b)) u y
theorem PickS.next {w wr W w4 w5 : World} {S : Nat → Prop} {tb : Nat} {l : List T} {k c g cap : Nat} {A : Option Addr} {ys : List TV} {u : T} {z : TV} (hP : PickS w S tb l k wr A c ys) (hS : ∀ b, S b → b < w.heap.size) (ht : w.heap.size + 2 ≤ tb) (hW : W.heap.size = wr.heap.size) (hu : l[k]? = some u)
    (hb4 : Below wr.heap.size wr w4) (hr : RepS w4 (Adds S W w4) u z) (hgrow : (w4.alloc (.cells z.cells 29)).grownBy w5 (Value.ownBlock (.slice A k c)))
    (hown : w5.ownsRow (tb + 1) 29 6 (.slice (some ⟨g, 0, none⟩) (k + 1) cap) (k + 1) (rowCells ys ++ z.cells.toList)) (hat : Value.ownBlock (.slice A k c) = some g ∨ g = w4.heap.size + 1) :
    PickS w S tb l (k + 1) (w5.setCell ⟨tb, 5, none⟩ (.slice (some ⟨g, 0, none⟩) (k + 1) cap)) (some ⟨g, 0, none⟩) cap (ys ++ [z]) := by
  have hbc : Below wr.heap.size wr (w4.alloc (.cells z.cells 29)) := hb4.alloc hb4.size _
  have hlt := hP.row.lt
  have hz := hP.box.lt
  have hws := hP.below.size
  have h4s := hb4.size
  have h5s := hgrow.size
  rw [World.size_alloc] at h5s
  have ne1 : some tb ≠ Value.ownBlock (.slice A k c) := fun e => by have := (hlt _ e.symm).1; omega
  have ne0 : some (w.heap.size + 1) ≠ Value.ownBlock (.slice A k c) := fun e => by have := (hlt _ e.symm).1; omega
  have bx := (hP.box.below hbc hP.box.lt).grown hgrow ne1
  have br := (hP.res.below hbc hP.res.lt).grown hgrow ne0
  have hs : (w5.setCell ⟨tb, 5, none⟩ (.slice (some ⟨g, 0, none⟩) (k + 1) cap)).heap.size = w5.heap.size := by simp [World.setCell]
  have hk5 : ∀ b, b < w4.heap.size → some b ≠ Value.ownBlock (.slice A k c) → b ≠ tb → (w5.setCell ⟨tb, 5, none⟩ (.slice (some ⟨g, 0, none⟩) (k + 1) cap)).heap[b]? = w4.heap[b]? := by
    intro b h1 h2 h3
    refine (Below.heap_setCell _ _ _ _ h3).trans ((hgrow.block b (by simp; omega) h2).trans ?_)
    exact ((Below.refl w4.heap.size w4).alloc (Nat.le_refl _) _).block b h1
  have hkr : ∀ b, b < wr.heap.size → w4.heap[b]? = wr.heap[b]? := fun b h => hb4.block b h
  refine ⟨((hP.below.trans (hbc.mono hP.below.size)).grown hgrow (by have := hP.below.size; have := hbc.size; omega) (fun q e => by have := (hlt q e).1; omega)).setCell (by show w.heap.size ≤ tb; omega) _, ?_, ?_, ?_, by simp [hP.len], ?_⟩
  · exact bx.set5 (some ⟨g, 0, none⟩) (k + 1) cap
  · exact br.other (by omega) _
  · rw [rowCells_snoc]
    exact ownsRow_setCell_below hown (Nat.lt_succ_self tb) _
  · intro j v hj hv
    by_cases hjk : j < k
    · obtain ⟨y, hy, hry⟩ := hP.reps j v hjk hv
      refine ⟨y, by rw [List.getElem?_append_left (by rw [hP.len]; exact hjk)]; exact hy, RepS.keep (fun b o hb => cell_of_heap ?_) (fun b hb => ?_) _ _ hry⟩
      · have hbs : b < wr.heap.size := by
          rcases hb with h | h
          · have := hS b h; omega
          · exact h.2.1
        refine (hk5 b (by omega) ?_ ?_).trans (hkr b hbs)
        · rcases hb with h | h
          · intro e; have := (hlt b e.symm).1; have := hS b h; omega
          · exact fun e => h.2.2 e.symm
        · rcases hb with h | h
          · have := hS b h; omega
          · omega
      · rcases hb with h | h
        · exact .inl h
        · refine .inr ⟨h.1, by rw [hs]; omega, fun e => ?_⟩
          have e : g = b := by simpa [Value.ownBlock] using e
          rcases hat with h' | h'
          · exact h.2.2 (by rw [h', e])
          · have := h.2.1; omega
    · obtain rfl : j = k := by omega
      rw [hu] at hv
      cases hv
      refine ⟨z, by rw [List.getElem?_append_right (by rw [hP.len]; exact Nat.le_refl _), hP.len]; simp, RepS.keep (fun b o hb => cell_of_heap ?_) (fun b hb => ?_) _ _ hr⟩
      · refine hk5 b ?_ ?_ ?_
        · rcases hb with h | h
          · have := hS b h; omega
          · exact h.2
        · rcases hb with h | h
          · intro e; have := (hlt b e.symm).1; have := hS b h; omega
          · intro e; have := (hlt b e.symm).2; rw [hW] at h; omega
        · rcases hb with h | h
          · have := hS b h; omega
          · rw [hW] at h; omega
      · rcases hb with h | h
        · exact .inl h
        · rw [hW] at h
          refine .inr ⟨by omega, by rw [hs]; omega, fun e => ?_⟩
          have e : g = b := by simpa [Value.ownBlock] using e
          rcases hat with h' | h'
          · have := (hlt g h').2; omega
          · omega
theorem PickS.ends {w wr : World} {S : Nat → Prop} {tb : Nat} {l : List T} {k c : Nat} {A : Option Addr} {ys : List TV} (hP : PickS w S tb l k wr A c ys) (hk : k = l.length) (h1 : 0 < k) (hn : k ≤ 4096) :
    RepS wr (fun b => S b ∨ (tb + 1 ≤ b ∧ b < wr.heap.size)) (.mk 5 (T.txt []) 0 [] [] l) (pickTV A k c) := by
  have hrow := hP.row
  obtain ⟨hl, ⟨_, h0⟩ | ⟨g, cap, cur, e, hg, hcur, hnc, hc, hs, ht⟩⟩ := hrow
  · omega
  cases e
  obtain ⟨hg1, hg2, hat⟩ := row_at hP.row
  refine rep_node (S := fun b => S b ∨ (tb + 1 ≤ b ∧ b < wr.heap.size)) (by omega) hk hn hnc hc (.inr ⟨hg1, hg2⟩) (fun j u hj => ?_)
  have hjk : j < k := by rw [hk]; exact (List.getElem?_eq_some_iff.1 hj).1
  obtain ⟨y, hy, hr⟩ := hP.reps j u hjk hj
  exact ⟨y, by rw [Nat.zero_add]; exact hat j y hy, hr.mono (fun b h => h.imp id (fun h => ⟨h.1, h.2.1⟩))⟩
theorem PickS.start {w w7 : World} {S : Nat → Prop} {tb : Nat} {l : List T} (hb : Below w.heap.size w w7) (hx : Box w7 tb (pickTV none 0 0)) (hr : Box w7 (w.heap.size + 1) zeroTV) : PickS w S tb l 0 w7 none 0 [] :=
  ⟨hb, hx, hr, World.ownsRow_nil _ _ _ _, rfl, fun j u h => absurd h (by omega)⟩

/-- what the round's statement loads -/
def Held_rg (w' : World) (tb b q : Nat) (A : Option Addr) (i c : Nat) (y : TV) : Prop :=
  w'.cell? ⟨tb, 5, none⟩ = some (.slice A i c) ∧ w'.cell? ⟨b, q, none⟩ = some (.int .i64 y.kind) ∧ w'.cell? ⟨b, q + 1, none⟩ = some (.string y.text) ∧ w'.cell? ⟨b, q + 2, none⟩ = some (.int .i64 y.n) ∧ w'.cell? ⟨b, q + 3, none⟩ = some (.slice y.sa y.sl y.sc) ∧ w'.cell? ⟨b, q + 4, none⟩ = some (.slice y.aa y.al y.ac) ∧ w'.cell? ⟨b, q + 5, none⟩ = some (.slice y.ka y.kl y.kc)
theorem Held_rg.keep {w w' : World} {tb b q : Nat} {A : Option Addr} {i c B : Nat} {y : TV} (hh : Held_rg w tb b q A i c y) (hb : Below B w w') (h1 : tb < B) (h2 : b < B) : Held_rg w' tb b q A i c y := by
  have hk := fun o => hb.cell (p := ⟨b, o, none⟩) h2
  obtain ⟨t5, a0, a1, a2, a3, a4, a5⟩ := hh
  exact ⟨(hb.cell (p := ⟨tb, 5, none⟩) h1).trans t5, (hk _).trans a0, (hk _).trans a1, (hk _).trans a2, (hk _).trans a3, (hk _).trans a4, (hk _).trans a5⟩
theorem Held_rg.grow {wb w5 : World} {tb b q : Nat} {A : Option Addr} {i c : Nat} {y : TV} {V : Value} (hh : Held_rg wb tb b q A i c y) (hg : wb.grownBy w5 V.ownBlock) (hne : ∀ g, V.ownBlock = some g → tb + 1 ≤ g) (hb : b < tb) : Held_rg w5 tb b q A i c y := by
  have n1 : some tb ≠ V.ownBlock := fun e => by have := hne tb e.symm; omega
  have n2 : some b ≠ V.ownBlock := fun e => by have := hne b e.symm; omega
  obtain ⟨t5, a0, a1, a2, a3, a4, a5⟩ := hh
  exact ⟨hg.cell t5 n1, hg.cell a0 n2, hg.cell a1 n2, hg.cell a2 n2, hg.cell a3 n2, hg.cell a4 n2, hg.cell a5 n2⟩
end Go.Proofs.YtnnhbpgpkpbinaaGreat
