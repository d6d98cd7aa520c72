/- Package expand: what the openers' walks want. -/
import Derived.Test.YtnnhbpgpkpbinaaGreatExp4
import Derived.Test.YtnnhbpgpkpbinaaGreatPure4
namespace Go.Proofs.YtnnhbpgpkpbinaaGreat
open Go.RowKit

/-- a verb as noun and other take it -/
structure Verb (t : T) : Prop where
  cls : T.cls t.kind = 3
  good : T.good t false = true
  fits : t.fits
def NounAll (t : T) : Prop := Verb t → ∀ (x : TV) (B : Nat) (v : Int) (eb mb cb : Nat) (w : World), Rep w B t x → B ≤ w.heap.size → ExpAt w eb mb cb → (v = 1 ∨ v = 2) →
  Calls Tryz.prog 28 #[.pointer (some ⟨eb, 0, none⟩), x.val, .int .i64 v] w (TwinPost (T.noun t v) w)
def OtherAll (t : T) : Prop := Verb t → ∀ (x : TV) (B : Nat) (v : Int) (eb mb cb : Nat) (w : World), Rep w B t x → B ≤ w.heap.size → ExpAt w eb mb cb → (v = 1 ∨ v = 2) →
  Calls Tryz.prog 50 #[.pointer (some ⟨eb, 0, none⟩), x.val, .int .i64 v] w (TwinPost (T.other t v) w)
theorem ExpAt.lt {w : World} {eb mb cb : Nat} (h : ExpAt w eb mb cb) : eb < w.heap.size ∧ mb < w.heap.size ∧ cb < w.heap.size :=
  ⟨World.block_lt_of_cell? _ _ h.e, h.m.lt, World.block_lt_of_cell? _ _ h.c⟩
/-- below a world nothing has turned: what noun answers there -/
theorem noun_later {t : T} (h : NounAll t) (hv : Verb t) {x : TV} {B eb mb cb : Nat} {v : Int} {w W : World} (hr : Rep w B t x) (hB : B ≤ w.heap.size) (hE : ExpAt w eb mb cb) (hb : Below w.heap.size w W) (h2 : v = 1 ∨ v = 2) :
    Calls Tryz.prog 28 #[.pointer (some ⟨eb, 0, none⟩), .agg #[.int .i64 x.kind, .string x.text, .int .i64 x.n, .slice x.sa x.sl x.sc, .slice x.aa x.al x.ac, .slice x.ka x.kl x.kc], .int .i64 v] W (TwinPost (T.noun t v) W) :=
  h hv x B v eb mb cb W (hr.below hb hB) (Nat.le_trans hB hb.size) (hE.below hb hE.lt.1 hE.lt.2.1 hE.lt.2.2) h2
theorem other_later {t : T} (h : OtherAll t) (hv : Verb t) {x : TV} {B eb mb cb : Nat} {v : Int} {w W : World} (hr : Rep w B t x) (hB : B ≤ w.heap.size) (hE : ExpAt w eb mb cb) (hb : Below w.heap.size w W) (h2 : v = 1 ∨ v = 2) :
    Calls Tryz.prog 50 #[.pointer (some ⟨eb, 0, none⟩), .agg #[.int .i64 x.kind, .string x.text, .int .i64 x.n, .slice x.sa x.sl x.sc, .slice x.aa x.al x.ac, .slice x.ka x.kl x.kc], .int .i64 v] W (TwinPost (T.other t v) W) :=
  h hv x B v eb mb cb W (hr.below hb hB) (Nat.le_trans hB hb.size) (hE.below hb hE.lt.1 hE.lt.2.1 hE.lt.2.2) h2
theorem twin_later {t : T} (hf : t.fits) {x : TV} {B : Nat} {w W : World} (hr : Rep w B t x) (hB : B ≤ w.heap.size) (hb : Below w.heap.size w W) :
    Calls Tryz.prog 52 #[.agg #[.int .i64 x.kind, .string x.text, .int .i64 x.n, .slice x.sa x.sl x.sc, .slice x.aa x.al x.ac, .slice x.ka x.kl x.kc]] W (TwinPost t W) :=
  etwin_calls t x B W (hr.below hb hB) (Nat.le_trans hB hb.size) hf
theorem Box.drew {w : World} {b : Nat} {x : TV} (h : Box w b x) : Box w.drew b x := ⟨h.c0, h.c1, h.c2, h.c3, h.c4, h.c5, h.f⟩
theorem Own.later {w w' : World} {t : T} {x : TV} {F : List Nat} {B : Nat} (h : Own w t x F) (hF : ∀ c ∈ F, c < B) (hb : Below B w w') : Own w' t x F := Own.kept t x F h (fun c hc => hb.block c (hF c hc))
theorem left_own (w : World) (v : Int) : Own w (T.leftT v) (leafTV 2 (leftB v)) [] := by
  unfold T.leftT leftB
  split
  · exact leaf_own w 2 ⟨#[120]⟩ (by decide) (by decide) (by decide)
  · exact leaf_own w 2 ⟨#[121]⟩ (by decide) (by decide) (by decide)
/-- the result's variable written: what is handed back -/
theorem new_ends {u : T} {w w3 : World} {y : TV} {F : List Nat} (hO : Own w3 u y F) (hF : Fresh (w.heap.size + 1) w3.heap.size F) (hB : Below w.heap.size w w3) (a0 a1 a2 a3 a4 a5 : Value) :
    TwinPost u w (.returned y.val) ((((((w3.setCell ⟨w.heap.size, 0, none⟩ a0).setCell ⟨w.heap.size, 1, none⟩ a1).setCell ⟨w.heap.size, 2, none⟩ a2).setCell ⟨w.heap.size, 3, none⟩ a3).setCell ⟨w.heap.size, 4, none⟩ a4).setCell ⟨w.heap.size, 5, none⟩ a5) := by
  refine ⟨y, F, rfl, Own.kept _ _ _ hO (fun b hb => ?_), hF.mono (by omega) ?_, ?_⟩
  · have := hF.lo b hb
    iterate 6 (refine (Below.heap_setCell _ _ _ _ (fun e => by simp only at e; omega)).trans ?_)
    rfl
  · simp [World.setCell]
  · iterate 6 (refine Below.setCell ?_ (by simp) _)
    exact hB
end Go.Proofs.YtnnhbpgpkpbinaaGreat
