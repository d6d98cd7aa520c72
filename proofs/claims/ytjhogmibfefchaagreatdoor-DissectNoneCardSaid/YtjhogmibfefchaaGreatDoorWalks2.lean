/- WalkNone and DissectNone, called: the walks of the two laws. -/
import Derived.Test.YtjhogmibfefchaaGreatDoorWalks
import Derived.Deep.RegionHeld3
import Derived.Deep.RegionWith
import Derived.Deep.DeepCutAuto
namespace Go.Proofs.YtjhogmibfefchaaGreatDoor
open Go.RowKit

theorem prim_calls (s : ByteArray) (w : World) : Calls Tryz.prog 9 #[.string s] w fun e w' => e = .returned (.agg #[.int .i64 20, .string s, .int .i64 0, .slice none 0 0, .slice none 0 0, .slice none 0 0]) ∧ Below w.heap.size w w' := by
  go_enter Tryz.func9, Tryz.ntmps9
  go_wp2_with fail
  refine bodyPost_ret (v := .agg #[.int .i64 20, .string s, .int .i64 0, .slice none 0 0, .slice none 0 0, .slice none 0 0]) (by simp [results, Tryz.results9, go_sem]) rfl ⟨rfl, ?_⟩
  exact (Below.refl _ _).alloc (Nat.le_refl _) _
theorem verb_calls (s : ByteArray) (w : World) : Calls Tryz.prog 6 #[.string s] w fun e w' => e = .returned (.agg #[.int .i64 20, .string s, .int .i64 0, .slice none 0 0, .slice none 0 0, .slice none 0 0]) ∧ Below w.heap.size w w' := by
  go_enter Tryz.func6, Tryz.ntmps6
  go_wp2_with fail
  refine bodyPost_ret (v := .agg #[.int .i64 20, .string s, .int .i64 0, .slice none 0 0, .slice none 0 0, .slice none 0 0]) (by simp [results, Tryz.results6, go_sem]) rfl ⟨rfl, ?_⟩
  exact (Below.refl _ _).alloc (Nat.le_refl _) _

theorem set6 {B : Nat} {a w : World} (h : Below B a w) {p : Nat} (hp : B ≤ p) (v0 v1 v2 v3 v4 v5 : Value) :
    Below B a ((((((w.setCell ⟨p, 0, none⟩ v0).setCell ⟨p, 1, none⟩ v1).setCell ⟨p, 2, none⟩ v2).setCell ⟨p, 3, none⟩ v3).setCell ⟨p, 4, none⟩ v4).setCell ⟨p, 5, none⟩ v5) :=
  (((((h.setCell (p := ⟨p, 0, none⟩) hp v0).setCell (p := ⟨p, 1, none⟩) hp v1).setCell (p := ⟨p, 2, none⟩) hp v2).setCell (p := ⟨p, 3, none⟩) hp v3).setCell (p := ⟨p, 4, none⟩) hp v4).setCell (p := ⟨p, 5, none⟩) hp v5

/-- the outcome of a job without a workspace, in a block of its own; y's cells are as they were. -/
def Refused (w : World) (v : Value) (wx : World) : Prop := ∃ g : Nat, v = .pointer (some ⟨g, 0, none⟩) ∧ w.heap.size + 1 < g ∧ g < wx.heap.size ∧
  (wx.cell? ⟨g, 0, none⟩ = some (.int .i64 1) ∧ wx.cell? ⟨g, 1, none⟩ = some (.slice none 0 0) ∧ wx.cell? ⟨g, 2, none⟩ = some (.slice none 0 0) ∧ wx.cell? ⟨g, 3, none⟩ = some (.slice none 0 0) ∧
    wx.cell? ⟨g, 4, none⟩ = some (.int .i64 0) ∧ wx.cell? ⟨g, 5, none⟩ = some (.int .i64 0)) ∧
  (wx.cell? ⟨w.heap.size + 1, 0, none⟩ = some (.slice none 0 0) ∧ wx.cell? ⟨w.heap.size + 1, 1, none⟩ = some (.slice (some ⟨w.heap.size, 0, none⟩) 1 1)) ∧ Below w.heap.size w wx

set_option maxHeartbeats 1000000 in
theorem walkNone_calls (w : World) : Calls Tryz.prog 4 #[] w fun e w' => e = .returned (.bool true) ∧ Below w.heap.size w w' := by
  go_enter Tryz.func4, Tryz.ntmps4
  go_upto_region 2 with fail
  go_cut [2] (fun v wx => Refused w v wx)
  case first =>
    go_region_held3 (fun w' => w'.cell? ⟨w.heap.size + 1, 0, none⟩ = some (.slice none 0 0) ∧ w'.cell? ⟨w.heap.size + 1, 1, none⟩ = some (.slice (some ⟨w.heap.size, 0, none⟩) 1 1))
      (first | go_keep | ((try dsimp only); (repeat' apply And.intro); (all_goals go_keep)) | (go_split_ands; refine ⟨?_, ?_⟩ <;> (rw [hb2.cell (by simp; omega)]; assumption)) | (go_split_ands; refine ⟨?_, ?_⟩ <;> (rw [hb1.cell (by simp; omega)]; assumption)))
      (first
        | (go_at_call 9; refine (prim_calls _ _).mono ?_; rintro e w1 ⟨rfl, hb1⟩; obtain ⟨hc1, hf1⟩ := bcell hb1; have hs1 := hb1.size; (try simp at hs1); have hz1 : w.heap.size + 1 < w1.heap.size := (by omega); (try (have hq1 : w.heap.size + 1 + 1 < w1.heap.size := (by omega))); have hx1 : ¬ w.heap.size + 1 = w1.heap.size := (by omega); have hy1 : ¬ w1.heap.size = w.heap.size + 1 := (by omega))
        | (go_at_call 8; refine (Run_nil _ _ _ _ _).mono ?_; rintro e w2 ⟨rfl, hb2⟩; obtain ⟨hc2, hf2⟩ := bcell hb2; have hs2 := hb2.size; (try simp at hs2); have hz2 : w.heap.size + 1 < w2.heap.size := (by omega); (try (have hq2 : w.heap.size + 1 + 1 < w2.heap.size := (by omega))); have hx2 : ¬ w.heap.size + 1 = w2.heap.size := (by omega); have hy2 : ¬ w2.heap.size = w.heap.size + 1 := (by omega)))
    all_goals
      go_wp2_with fail
      go_meet
      have hB1 : Below w.heap.size w w1 := Below.trans (by first | (with_reducible exact (((Below.refl _ _).alloc (Nat.le_refl _) _).alloc (by simp) _).drew) | (with_reducible exact ((((Below.refl _ _).alloc (Nat.le_refl _) _).alloc (by simp) _).alloc (by simp; omega) _).drew)) (hb1.mono (by simp; omega))
      have hB2 : Below w.heap.size w w2 := Below.trans (by first | (with_reducible exact hB1) | (with_reducible exact hB1.alloc (by omega) _)) (hb2.mono (by first | omega | (simp; omega)))
      refine ⟨_, rfl, by omega, by first | (simp; done) | (simp; omega), ?_, by assumption, ?_⟩
      · refine ⟨?_, ?_, ?_, ?_, ?_, ?_⟩ <;> go_simp
      · first | (with_reducible exact hB2.alloc (by omega) _) | (with_reducible exact set6 hB2 (by omega) _ _ _ _ _ _)
  case rest =>
    obtain ⟨g, rfl, hg1, hg2, ⟨c0, c1, c2, c3, c4, c5⟩, ⟨y0, y1⟩, hB⟩ := hcut
    have hyc : w.heap.size + 1 < wc.heap.size := by omega
    go_wp2_with fail
    refine (Say_nil _ _ _ _ _ _ _).mono ?_
    rintro e w3 ⟨rfl, hb3⟩
    obtain ⟨hc3, hf3⟩ := bcell hb3
    have hs3 := hb3.size
    have hg3 : g < w3.heap.size := by omega
    go_wp2_with fail
    refine (eqOutcome_nil _ 1).mono ?_
    rintro e w4 ⟨rfl, hb4⟩
    obtain ⟨hc4, hf4⟩ := bcell hb4
    have hs4 := hb4.size
    have hw3 : w3.heap.size < w4.heap.size := by simp at hs4; omega
    go_wp2_with fail
    refine (eqOutcome_nil _ 1).mono ?_
    rintro e w5 ⟨rfl, hb5⟩
    have hs5 := hb5.size
    go_wp2_with fail
    go_ret
    refine ⟨rfl, ?_⟩
    have h3 : Below w.heap.size w w3 := hB.trans (hb3.mono (by omega))
    have h4 : Below w.heap.size w w4 := Below.trans (b := w3.alloc _) (h3.alloc (by omega) _) (hb4.mono (by simp; omega))
    exact h4.trans (hb5.mono (by omega))

theorem dissectRun_calls (w : World) (s : ByteArray) (a : Option Addr) (l c : Nat) : Calls Tryz.prog 5 #[.pointer none, .agg #[.int .i64 20, .string s, .int .i64 0, .slice none 0 0, .slice none 0 0, .slice none 0 0, .bool false, .slice none 0 0, .slice none 0 0, .slice none 0 0, .slice a l c, .int .i64 9, .int .i64 9]] w fun e w' => e = .returned (.tuple #[.slice none 0 0, .int .i64 0, .agg #[.int .i64 1, .slice none 0 0, .slice none 0 0, .slice none 0 0, .int .i64 0, .int .i64 0]]) ∧ Below w.heap.size w w' := by
  go_enter Tryz.func5, Tryz.ntmps5
  go_wp2_with fail
  refine (Watch_nil _ _ _ _ _ _).mono ?_
  rintro e w1 ⟨rfl, hb1⟩
  obtain ⟨hc1, hf1⟩ := bcell hb1
  have hs1 := hb1.size
  simp at hs1
  have hz0 : w.heap.size < w1.heap.size := by omega
  have hz1 : w.heap.size + 1 < w1.heap.size := by omega
  have hz2 : w.heap.size + 1 + 1 < w1.heap.size := by omega
  have hz3 : w.heap.size + 1 + 1 + 1 < w1.heap.size := by omega
  go_wp2_with fail
  have hg0 : (w1.alloc (.cells #[.int .i64 1, .slice none 0 0, .slice none 0 0, .slice none 0 0, .int .i64 0, .int .i64 0] 30)).cell? ⟨w.heap.size + 1 + 1, 0, none⟩ = some (.slice none 0 0) := by go_simp
  have hm1 : Below w.heap.size w w1 := Below.trans (by with_reducible exact ((((Below.refl _ _).alloc (Nat.le_refl _) _).alloc (by simp) _).alloc (by simp; omega) _).alloc (by simp; omega) _) (hb1.mono (by simp; omega))
  go_region
  all_goals go_wp2_with fail
  refine bodyPost_ret (v := .tuple #[.slice none 0 0, .int .i64 0, .agg #[.int .i64 1, .slice none 0 0, .slice none 0 0, .slice none 0 0, .int .i64 0, .int .i64 0]]) (by simp [results, Tryz.results5, go_sem, hc1, hz1]) rfl ⟨rfl, ?_⟩
  have h6 := set6 hm1 (p := w.heap.size + 1) (by omega) (.int .i64 1) (.slice none 0 0) (.slice none 0 0) (.slice none 0 0) (.int .i64 0) (.int .i64 0)
  exact (h6.alloc h6.size _).drew

theorem dissectNone_calls (w : World) : Calls Tryz.prog 3 #[] w fun e w' => e = .returned (.bool true) ∧ Below w.heap.size w w' := by
  go_enter Tryz.func3, Tryz.ntmps3
  go_wp2_with fail
  refine (verb_calls _ _).mono ?_
  rintro e w1 ⟨rfl, hb1⟩
  obtain ⟨hc1, hf1⟩ := bcell hb1
  go_wp2_with fail
  refine (dissectRun_calls _ _ _ _ _).mono ?_
  rintro e w2 ⟨rfl, hb2⟩
  obtain ⟨hc2, hf2⟩ := bcell hb2
  go_wp2_with fail
  refine (eqOutcome_nil _ 1).mono ?_
  rintro e w3 ⟨rfl, hb3⟩
  go_wp2_with fail
  go_ret
  have h2 : Below w.heap.size w w2 := Below.trans (b := w1.alloc _) (hb1.alloc hb1.size _) (hb2.mono (by have := hb1.size; simp; omega))
  exact ⟨rfl, Below.trans (b := w2.alloc _) (h2.alloc h2.size _) (hb3.mono (by have := h2.size; simp; omega))⟩
end Go.Proofs.YtjhogmibfefchaaGreatDoor
