/- Package term: Size, great. -/
import Derived.Test.YtnnhbpgpkpbinaaGreatTerm2
namespace Go.Proofs.YtnnhbpgpkpbinaaGreat
open Go.RowKit

/-- A term's six cells, laid into a block of their own. -/
theorem At.boxed (w : World) (x : TV) (ty : TypeId) : At (w.alloc (.cells x.cells ty)) w.heap.size 0 x := by
  constructor <;> simp [TV.cells]

/-- what a whole count comes to -/
theorem count_ends {t : T} {W w' : World} {cb : Nat} {e : Ending} (h : AddPost W cb 0 0 1 t.nodes t.height e w') :
    (e = .returned (.bool true) ∧ t.fits ∧ w'.cell? ⟨cb, 0, none⟩ = some (.int .i64 (t.sizeN : Int)) ∧ w'.cell? ⟨cb, 1, none⟩ = some (.int .i64 (t.sizeD : Int)) ∧ W.grownBy w' (some cb)) ∨
      (e = .returned (.bool false) ∧ ¬ t.fits ∧ W.grownBy w' (some cb)) := by
  obtain ⟨a', m', g, c0, c1, f, ⟨h1, h2, he, ha, hm⟩ | ⟨hn, he⟩⟩ := h
  · have hf : t.fits := ⟨by omega, by omega⟩
    refine .inl ⟨he, hf, ?_, ?_, g⟩
    · rw [c0, ha, T.sizeN, if_pos hf]; simp
    · rw [c1, hm, T.sizeD, if_pos hf]
      congr 2
      have := T.height_pos t
      omega
  · refine .inr ⟨he, fun hf => hn ⟨by have := hf.1; omega, by have := hf.2; omega⟩, g⟩
theorem below_grown {B : Nat} {a w w' : World} {cb : Nat} (h : Below B a w) (hg : w.grownBy w' (some cb)) (hB : B ≤ w.heap.size) (hc : B ≤ cb) : Below B a w' :=
  h.grown hg hB (fun k hk => by injection hk with hk; omega)

set_option maxHeartbeats 1000000 in
theorem size_calls (t : T) (x : TV) (B : Nat) (w : World) (hr : Rep w B t x) (hB : B ≤ w.heap.size) :
    Calls Tryz.prog 14 #[x.val] w fun e w' => e = .returned (.tuple #[.int .i64 (t.sizeN : Int), .int .i64 (t.sizeD : Int)]) ∧ Below w.heap.size w w' := by
  have hb1 : Below w.heap.size w (w.alloc (.cells x.cells 29)) := (Below.refl w.heap.size w).alloc (Nat.le_refl _) _
  have hb2 : Below w.heap.size w ((w.alloc (.cells x.cells 29)).alloc (.cells #[.int .i64 0, .int .i64 0] 66)) := hb1.alloc hb1.size _
  have hat := (At.boxed w x 29).keep (B := w.heap.size + 1) (w' := (w.alloc (.cells x.cells 29)).alloc (.cells #[.int .i64 0, .int .i64 0] 66)) (by omega)
    (Keeps.of_below (B := (w.alloc (.cells x.cells 29)).heap.size) ((Below.refl _ _).alloc (Nat.le_refl _) _) (by simp))
  have hr1 := Rep.below hr hb2 hB
  have hadd := add_all t x w.heap.size 0 (w.heap.size + 1) B 0 0 1 _ hr1 hat (by omega) (by omega) (by simp; omega) (by simp) (by simp) (by intro o; simp) (by omega) (by omega) (by omega) (by omega) (by omega) (by omega)
  have HA := Lib.hid hadd
  clear hadd hat
  simp only [TV.val]
  go_enter Tryz.func14, Tryz.ntmps14
  go_wp2_with fail
  refine HA.out.mono ?_
  intro e w1 hp
  rcases count_ends hp with ⟨rfl, hf, c0, c1, g⟩ | ⟨rfl, hf, g⟩
  · have hbw := below_grown hb2 g (by simp; omega) (by omega)
    clear hp
    go_wp2_with fail
    go_quiet (fail)
    go_wp2_with fail
    go_ret2
    exact ⟨rfl, below_drewN hbw _⟩
  · have e1 : t.sizeN = 4097 := by rw [T.sizeN, if_neg hf]
    have e2 : t.sizeD = 257 := by rw [T.sizeD, if_neg hf]
    have hbw := below_grown hb2 g (by simp; omega) (by omega)
    clear hp
    have E1 := Lib.hid e1
    have E2 := Lib.hid e2
    clear e1 e2
    go_wp2_with fail
    go_ret2
    exact ⟨by rw [E1.out, E2.out]; rfl, hbw⟩

theorem great_calls (t : T) (x : TV) (B : Nat) (w : World) (hr : Rep w B t x) (hB : B ≤ w.heap.size) :
    Calls Tryz.prog 32 #[x.val] w fun e w' => e = .returned (.bool (decide (4096 < (t.sizeN : Int)))) ∧ Below w.heap.size w w' := by
  have hb1 : Below w.heap.size w (w.alloc (.cells x.cells 29)) := (Below.refl w.heap.size w).alloc (Nat.le_refl _) _
  have hs := size_calls t x B _ (Rep.below hr hb1 hB) (by simp; omega)
  simp only [TV.val, TV.cells] at hs hb1 ⊢
  have HS := Lib.hid hs
  clear hs
  go_enter Tryz.func32, Tryz.ntmps32
  go_wp2_with fail
  refine HS.out.mono ?_
  rintro e w1 ⟨rfl, hb⟩
  go_wp2_with fail
  go_ret
  exact ⟨rfl, hb1.trans (hb.mono (by simp))⟩
end Go.Proofs.YtnnhbpgpkpbinaaGreat
