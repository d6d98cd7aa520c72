/- The document's row of nodes: the walk. -/
import Derived.Test.YtnnhbpgpkpbinaaGreatMRefD
import Derived.BigRegion
import Derived.Deep.RegionLaw
import Derived.Deep.AppendLies
set_option linter.unusedVariables false
set_option linter.unusedSimpArgs false
namespace Go.Proofs.YtnnhbpgpkpbinaaGreat
open Go.RowKit

theorem info_node0 : (Tryz.prog.info? 74).map (fun i => (i.zero, i.size, i.bytes)) = some (some (.agg #[.int .i64 0, .string ⟨#[]⟩, .int .i64 0, .slice none 0 0, .slice none 0 0, .slice none 0 0, .int .i64 0, .bool false]), 8, 120) := by kernel_rfl
theorem nodeCells_int (x : TV) (d : Nat) (b : Bool) : nodeCells x (d + 1) b = [.int .i64 x.kind, .string x.text, .int .i64 x.n, .slice x.sa x.sl x.sc, .slice x.aa x.al x.ac, .slice x.ka x.kl x.kc, .int .i64 ((d : Int) + 1), .bool b] := by
  simp [nodeCells]
theorem node_one (x : TV) (d : Int) (b : Bool) : ∀ u ∈ ([.int .i64 x.kind, .string x.text, .int .i64 x.n, .slice x.sa x.sl x.sc, .slice x.aa x.al x.ac, .slice x.ka x.kl x.kc, .int .i64 d, .bool b] : List Value), u.oneCell' = true := by
  intro u hu
  simp only [List.mem_cons, List.not_mem_nil, or_false] at hu
  rcases hu with rfl | rfl | rfl | rfl | rfl | rfl | rfl | rfl <;> rfl
theorem RowMem.drew {w wr : World} {B : Nat} {l : List RN} {xs : List TV} {v : Value} (h : RowMem w B l xs v wr) : RowMem w B l xs v wr.drew := ⟨h.below.drew, h.row, h.reps, h.len⟩

theorem row_next {w wr w3 : World} {B K N : Nat} {P Q : List RN} {n : RN} {xs : List TV} {v v' : Value} {u : T} {z : TV} {bv : Bool} (hM : RowMem w B (P ++ n :: Q ++ n.kids.take K) xs v wr) (hB : B ≤ w.heap.size)
    (hN : (P ++ n :: Q ++ n.kids.take K).length = N) (hu : n.t.kids[K]? = some u) (hb : n.t.under n.b = bv) (hr : Rep wr B u z) (o : Obj) (hg : (wr.alloc o).grownBy w3 v.ownBlock)
    (hown : w3.ownsRow w.heap.size 74 8 v' (N + 1) (nodeRow (P ++ n :: Q ++ n.kids.take K) xs ++ [.int .i64 z.kind, .string z.text, .int .i64 z.n, .slice z.sa z.sl z.sc, .slice z.aa z.al z.ac, .slice z.ka z.kl z.kc, .int .i64 ((n.d : Int) + 1), .bool bv])) :
    RowMem w B (P ++ n :: Q ++ n.kids.take (K + 1)) (xs ++ [z]) v' w3 := by
  have hk := Keeps.of_below hM.below hB
  have hr' : Rep w B u z := Rep.keep (fun b o h => (hk b o h).symm) _ _ hr
  have hn : n.kids[K]? = some ⟨u, n.d + 1, bv⟩ := by rw [RN.kids, List.getElem?_map, hu, hb]; rfl
  have h := RowMem.step (n := ⟨u, n.d + 1, bv⟩) (y := z) hM hr' o hg (by rw [nodeCells_int, hN]; exact hown)
  rw [List.take_add_one, hn]
  simpa using h

def RowPost (t : T) (B : Nat) (w : World) (e : Ending) (w' : World) : Prop :=
  (¬ t.fits ∧ e = .returned (.tuple #[.slice none 0 0, .bool false]) ∧ Below w.heap.size w w') ∨
  (t.fits ∧ ∃ l xs v, e = .returned (.tuple #[v, .bool true]) ∧ RowMem w B l xs v w' ∧ RowInv t l [] ∧ l.length ≤ 4096)

set_option maxRecDepth 100000 in
set_option maxHeartbeats 8000000 in
theorem row_calls (t : T) (x : TV) (B : Nat) (w : World) (hr : Rep w B t x) (hB : B ≤ w.heap.size) :
    Calls Tryz.prog 39 #[x.val] w (RowPost t B w) := by
  have HS := Lib.hid (fun cs ty => RowMem.start hr cs ty hB)
  have hx := x
  simp only [TV.val, TV.cells]
  simp only [nodeCells] at HS
  clear hr
  go_enter Tryz.func39, Tryz.ntmps39
  go_wp2_with fail
  go_loopw [4, 5] (fun v i wr => ∃ (P Q : List RN) (xs : List TV), i = .int .i64 P.length ∧ (P ++ Q).length ≤ 4096 ∧ Hid (RowInv t P Q) ∧ RowMem w B (P ++ Q) xs v wr) (fun _ i _ => 4096 - (intOf i).toNat)
  case atStart =>
    refine ⟨[], [⟨t, 1, false⟩], [x], rfl, by simp, RowInv.start t, ?_⟩
    exact HS.out _ _
  case round =>
    obtain ⟨P, Q, xs, rfl, hlen, hinv, hmem⟩ := hrel
    have HM := Lib.hid hmem
    clear hmem
    cases Q with
    | nil =>
      rw [List.append_nil] at hlen
      have HE := Lib.hid (hinv.out.ends hlen)
      have hM := HM.out
      rw [List.append_nil] at hM
      have hn0 : P.length ≠ 0 := by have h1 := HE.out.2.1; have := T.nodes_pos t; omega
      obtain ⟨hl0, ⟨_, h0⟩ | ⟨g, cap, cur, rfl, hr1, hr2, hr3, hr4, hr5, hr6⟩⟩ := hM.row
      · exact absurd h0 hn0
      clear hM hl0 hr2 hr5 hr6 hn0
      go_wp2_with fail
      refine bodyPost_ret (v := .tuple #[.slice (some ⟨g, 0, none⟩) P.length cap, .bool true]) (by simp [results, Tryz.results39, go_sem]) rfl (Or.inr ⟨HE.out.1, P, xs, _, rfl, ?_, hinv.out, hlen⟩)
      have := HM.out
      rw [List.append_nil] at this
      exact this
    | cons n Q =>
      obtain ⟨g, cap, y, rfl, hg, hgl, hlc, hcm, ⟨c0, c1, c2, c3, c4, c5, c6, c7⟩, hry, hxy⟩ := HM.out.at hB (j := P.length) (n := n) (by simp)
      have hkl := hry.kl
      have hy1 : y.kl ≤ 2199023255552 := hry.wee.l1
      have HKD := Lib.hid hry.kind
      have HNN := Lib.hid hry.n
      have HDN := Lib.hid (fun h => hinv.out.deepNot (n := n) (Q := Q) h)
      have HMN := Lib.hid (fun h => hinv.out.manyNot (n := n) (Q := Q) h)
      have HST := Lib.hid (fun h => hinv.out.step (n := n) (Q := Q) h)
      have hLL : (P ++ n :: Q).length = P.length + (Q.length + 1) := by simp
      obtain ⟨L, hL⟩ : ∃ L, (P ++ n :: Q).length = L := ⟨_, rfl⟩
      obtain ⟨i, hi⟩ : ∃ i, P.length = i := ⟨_, rfl⟩
      rw [hL] at hlen hlc HMN hLL
      rw [hL]
      rw [hi] at c0 c1 c2 c3 c4 c5 c6 c7 hLL
      rw [hi]
      have HL := Lib.hid hL
      have HI := Lib.hid hi
      have hiL : i < L := by omega
      clear hLL
      have HB := Lib.hid HM.out.below
      clear hry hxy hL hi
      by_cases hd : 256 < n.d
      · have g1 : decide ((256 : Int) < (n.d : Int)) = true := by simp; omega
        go_wp2_with fail
        all_goals refine bodyPost_ret (v := .tuple #[.slice none 0 0, .bool false]) (by simp [results, Tryz.results39, go_sem]) rfl (Or.inl ⟨HDN.out hd, rfl, HB.out⟩)
      have g1 : decide ((256 : Int) < (n.d : Int)) = false := by simp; omega
      by_cases hm : 4096 < L + y.kl
      · have g2 : decide ((4096 : Int) < (L : Int) + (y.kl : Int)) = true := by simp; omega
        go_wp2_with fail
        all_goals refine bodyPost_ret (v := .tuple #[.slice none 0 0, .bool false]) (by simp [results, Tryz.results39, go_sem]) rfl (Or.inl ⟨HMN.out (by rw [← hkl]; exact hm), rfl, HB.out⟩)
      have g2 : decide ((4096 : Int) < (L : Int) + (y.kl : Int)) = false := by simp; omega
      have hcase : ((y.kind == 23) = true ∧ Hid (n.t.under n.b = (y.n == 1))) ∨ ((y.kind == 23) = false ∧ Hid (n.t.under n.b = n.b)) := by
        by_cases hk : y.kind = 23
        · exact .inl ⟨by simp [hk], show n.t.under n.b = (y.n == 1) by rw [T.under, if_pos (HKD.out.symm.trans hk), HNN.out]⟩
        · exact .inr ⟨by simp [hk], show n.t.under n.b = n.b by rw [T.under, if_neg (fun e => hk (HKD.out.trans e))]⟩
      rcases hcase with ⟨g3, HU⟩ | ⟨g3, HU⟩
      all_goals
        go_wp2_with fail
        rw [← HU.out]
        obtain ⟨bv, hbv⟩ : ∃ bv, n.t.under n.b = bv := ⟨_, rfl⟩
        rw [hbv]
        have HBV := Lib.hid hbv
        clear hbv
        clear c0 c1 c2 c3 c4 c5 c6 c7 g1 g2 g3
        go_loopw [4, 7] (fun v k wq => ∃ (K : Nat) (xs : List TV), K ≤ n.t.kids.length ∧ k = .int .i64 K ∧ RowMem w B (P ++ n :: Q ++ n.kids.take K) xs v wq) (fun _ k _ => n.t.kids.length - (intOf k).toNat)
        case atStart =>
          refine ⟨0, xs, Nat.zero_le _, rfl, ?_⟩
          have := HM.out
          rw [HL.out] at this
          rw [List.take_zero, List.append_nil]
          exact this
        case round =>
          obtain ⟨K, xs2, hK, rfl, hm2⟩ := hrel
          have HM2 := Lib.hid hm2
          clear hm2
          obtain ⟨g2, cap2, y2, rfl, hg2, hgl2, hlc2, hcm2, ⟨d0, d1, d2, d3, d4, d5, d6, d7⟩, hry2, _⟩ := HM2.out.at hB (j := i) (n := n) (by rw [← HI.out]; simp)
          have hL2 : (P ++ n :: Q ++ n.kids.take K).length = L + K := by rw [List.length_append, HL.out, List.length_take]; simp [RN.kids]; omega
          rw [hL2] at hlc2
          rw [hL2]
          have HL2 := Lib.hid hL2
          have hkl2 := hry2.kl
          have hy2 : y2.kl ≤ 2199023255552 := hry2.wee.l1
          clear hL2
          by_cases hlt : K < y2.kl
          · obtain ⟨u, hu⟩ : ∃ u, n.t.kids[K]? = some u := ⟨n.t.kids[K]'(by omega), by simp⟩
            obtain ⟨b, o, z, he, hb, hat, hru⟩ := hry2.kid hu
            obtain ⟨q0, q1, q2, q3, q4, q5⟩ := hat
            have hbw : b < wr.heap.size := by have := HM2.out.below.size; omega
            rw [he] at d5
            obtain ⟨i0, hi0, hz0, hz1, hz2⟩ := info_parts info_node0
            have HRU := Lib.hid hru
            have hwrap : IntKind.i64.wrap ((n.d : Int) + 1) = (n.d : Int) + 1 := by rw [IntKind.wrap_i64]; omega
            have hw0 := HM2.out.below.size
            have hb1 : i < L + K := by omega
            have hb2 : (i : Int) < (L : Int) + (K : Int) := by omega
            have hb3 : (K : Int) < (y2.kl : Int) := by omega
            have HUU := Lib.hid hu
            clear hu hru he
            go_wp2_with fail
            go_region_law (refine step_append_lies _ (by rfl) _ _ 69 (by rfl) w.heap.size 74 i0 _ 8 120 Tryz.underlying69 hi0 hz0 hz1 hz2 (by rfl) (by decide) _ (L + K) (nodeRow (P ++ n :: Q ++ n.kids.take K) xs2) (by rfl) (by have h1 := HM2.out.row; rw [HL2.out] at h1; exact h1.kept (grown_of_below (by first | exact (Below.refl _ _).alloc (Nat.le_refl _) _ | exact (Below.refl _ _).drew.alloc (Nat.le_refl _) _) none) (Classical.em _)) ⟨wr.heap.size, 0, none⟩ 1 1 _ (by rfl) (by rfl) (row_new _ #[.int .i64 z.kind, .string z.text, .int .i64 z.n, .slice z.sa z.sl z.sc, .slice z.aa z.al z.ac, .slice z.ka z.kl z.kc, .int .i64 ((n.d : Int) + 1), .bool bv] _) (node_one z _ bv) (by omega) (by unfold maxLen; omega) (by omega) (by simp; omega) (wr.heap.size + 1) (by simp) ?_; intro g3 cap3 w3 hown hgrow hat hlt3)
            all_goals
              have HNX := Lib.hid (show RowMem w B (P ++ n :: Q ++ n.kids.take (K + 1)) (xs2 ++ [z]) (.slice (some ⟨g3, 0, none⟩) (L + K + 1) cap3) w3 from by
                first
                | exact row_next HM2.out hB HL2.out HUU.out HBV.out HRU.out _ (by rw [HL2.out]; exact hgrow) hown
                | exact row_next HM2.out.drew hB HL2.out HUU.out HBV.out (HRU.out.below (Below.refl _ _).drew (by omega)) _ (by rw [HL2.out]; exact hgrow) hown)
              clear hown hgrow hat hlt3 d0 d1 d2 d3 d4 d5 d6 d7 q0 q1 q2 q3 q4 q5
              go_wp2_with fail
              go_roundw
              case rel => exact ⟨K + 1, _, by omega, by go_num, HNX.out⟩
              case measure => simp [intOf]; omega
          · have HMF := HM2.out
            rw [List.take_of_length_le (by simp [RN.kids]; omega)] at HMF
            have hL3 := HL2.out
            rw [List.take_of_length_le (by simp [RN.kids]; omega)] at hL3
            rw [hL3] at HMF
            have HMF := Lib.hid HMF
            clear hL3
            have hKe : K = n.t.kids.length := by omega
            go_wp2_with fail
            go_roundw
            case rel =>
              refine ⟨P ++ [n], Q ++ n.kids, xs2, ?_, ?_, HST.out (by omega), ?_⟩
              · rw [List.length_append, HI.out]; go_num
              · have h1 := HL.out
                simp only [List.length_append, List.length_cons, List.length_nil, RN.kids, List.length_map] at h1 ⊢
                omega
              · have h1 := HMF.out
                simpa using h1
            case measure => simp [intOf]; omega
end Go.Proofs.YtnnhbpgpkpbinaaGreat
