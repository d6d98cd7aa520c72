/- Package print: trains (printed by mkph6.py). Package print: the writer writes each term's text. -/
import Derived.Test.YtboondbognbnnaaGreatDoorQQqE
import Derived.Test.YtboondbognbnnaaGreatDoorQQqC
set_option linter.unusedVariables false
set_option linter.unusedSimpArgs false
namespace Go.Proofs.YtboondbognbnnaaGreatDoor
open Go.RowKit
/-- a train's texts -/
def trTail (u : T) : List T → List (List UInt8)
  | [] => []
  | v :: r => ([32] ++ Pp.rn (Pp.brk (Pp.begins v && Pp.ends u) (Pp.phrase v))) :: trTail v r
def trs : List T → List (List UInt8)
  | [] => []
  | t :: r => Pp.rn (Pp.phrase t) :: trTail t r
theorem trTail_length : ∀ (l : List T) (u : T), (trTail u l).length = l.length
  | [], _ => rfl
  | v :: r, u => by simp [trTail, trTail_length r v]
theorem trs_length (l : List T) : (trs l).length = l.length := by
  cases l with
  | nil => rfl
  | cons t r => simp [trs, trTail_length]
theorem trTail_at : ∀ (l : List T) (x u v : T) (k : Nat), (x :: l)[k]? = some u → l[k]? = some v → (trTail x l)[k]? = some ([32] ++ Pp.rn (Pp.brk (Pp.begins v && Pp.ends u) (Pp.phrase v)))
  | [], _, _, _, _, _, h => by simp at h
  | y :: r, x, u, v, 0, hu, hv => by simp at hu hv; subst hu; subst hv; simp [trTail]
  | y :: r, x, u, v, k + 1, hu, hv => by
    simp only [trTail, List.getElem?_cons_succ] at hu hv ⊢
    exact trTail_at r y u v k hu hv
theorem trs_at0 {l : List T} {t : T} (h : l[0]? = some t) : (trs l)[0]? = some (Pp.rn (Pp.phrase t)) := by
  cases l with
  | nil => simp at h
  | cons a r => simp at h; subst h; simp [trs]
theorem trs_at {l : List T} {u v : T} {k : Nat} (hu : l[k]? = some u) (hv : l[k + 1]? = some v) : (trs l)[k + 1]? = some ([32] ++ Pp.rn (Pp.brk (Pp.begins v && Pp.ends u) (Pp.phrase v))) := by
  cases l with
  | nil => simp at hu
  | cons a r => simp only [trs, List.getElem?_cons_succ] at hv ⊢; exact trTail_at r a u v k hu hv
theorem train1_enter (a : Array Value) (w : World) : (callFunc 124 a).run Tryz.prog w = .ok (.enter 124 a) w := enters_of Tryz.func124 (by kernel_rfl) rfl a w
set_option maxRecDepth 100000 in
set_option maxHeartbeats 4000000 in
/-- train's closure: a verb's phrase -/
theorem clo_train {B b q r n cap k g h c : Nat} {l : List UInt8} {v : T} {y : TV} {w : World} (hk : k < n) (hv : VAt v) (hg : Box1 g (ptr b 0) 111 w) (hh : Box1 h (.slice (some ⟨q, r, none⟩) n cap) 27 w) (hc : Box1 c (.int .i64 k) 3 w) (ht : TAt B v q (r + k * 6) y w) (hW : Wr B b l w) (hle : l.length ≤ 1048576) (hB : B ≤ w.heap.size) (hT : Tabs B w) :
    Calls Tryz.prog 124 #[ptr g 0, ptr h 0, ptr c 0] w (Puts B b l (Pp.rn (Pp.phrase v)) w) := by
  have c0 := hg.cell
  have c1 := hh.cell
  have c2 := hc.cell
  have hk1 : (k : Int) < (n : Int) := by omega
  have hk2 : (0 : Int) ≤ (k : Int) := by omega
  have D0 := Lib.hid ((Done.start hW hle).drew hB)
  have HC := Lib.hid (fun (w1 : World) (D : Done B b l [] w w1) => hv.at_ ht hB hT D)
  clear hg hh hc ht hW hle hB hT
  go_enter Tryz.func124, Tryz.ntmps124
  go_wp2_with fail
  refine still_tailP 4 (by kernel_rfl) (by kernel_rfl) ?_
  simp only [List.take_succ_cons, List.take_zero, List.drop_succ_cons, List.drop_zero]
  repeat still_step
  refine wpStill_nil ?_
  go_wp2_with fail
  refine (HC.out _ D0.out).mono ?_
  intro e w1 hp
  rcases hp.two with ⟨rfl, h⟩ | ⟨ps, rfl, h⟩
  rotate_left
  · exact ⟨rfl, (D0.out.dead h).to ⟨[], by simp⟩⟩
  have D1 := Lib.hid (D0.out.then h)
  clear hp h
  go_wp2_with fail
  exact bodyPost_end (results_none rfl _ _ _) rfl (D1.out.to (by simp))
set_option maxRecDepth 100000 in
set_option maxHeartbeats 800000 in
theorem train_all {L : List T} (hV : ∀ t ∈ L, VAt t) (hBg : ∀ t ∈ L, BeginsAt t) (hEn : ∀ t ∈ L, EndsAt t) : TrAt L (trs L).flatten := by
  intro B b q r n cap l w hn hcap hn3 hkid hW hl hB hT
  have HN := Lib.hid hn
  clear hn
  have htot : (trs L).flatten = [] ++ ((trs L).flatten ++ []) := by simp
  rw [htot]
  obtain ⟨out, hO⟩ : ∃ o, o = [] ++ ((trs L).flatten ++ []) := ⟨_, rfl⟩
  rw [← hO]
  have HO := Lib.hid hO
  clear hO htot
  have hA1 := (Below.refl w.heap.size w).alloc (Nat.le_refl _) (.cells #[ptr b 0] 111)
  have hA2 := hA1.alloc (by simp) (.cells #[.slice (some ⟨q, r, none⟩) n cap] 27)
  have g1 := (Box1.new w (ptr b 0) 111).later ((Below.refl _ _).alloc (Nat.le_refl _) (.cells #[.slice (some ⟨q, r, none⟩) n cap] 27))
  have g2 := Box1.new (w.alloc (.cells #[ptr b 0] 111)) (.slice (some ⟨q, r, none⟩) n cap) 27
  rw [show (w.alloc (.cells #[ptr b 0] 111)).heap.size = w.heap.size + 1 by simp] at g2
  have D0 := (Done.start hW hl).later hB hA2
  go_enter Tryz.func85, Tryz.ntmps85
  go_upto_region 1 with fail
  generalize (w.alloc _).alloc _ = w0 at *
  have G0 := Lib.hid g1
  have H0 := Lib.hid g2
  have z0 := g1.cell
  have z1 := g2.cell
  have HB := Lib.hid hB
  have HT := Lib.hid hT
  have HK := Lib.hid hkid
  have HVs := Lib.hid hV
  have HBs := Lib.hid hBg
  have HEs := Lib.hid hEn
  have S0 := Lib.hid (⟨by simpa using D0⟩ : SeqRel B b l [] (trs L) w 0 w0)
  clear hA1 hA2 g1 g2 D0 hV hBg hEn hkid hB hT hW hl
  go_wp2_with fail
  go_loopw [7] (fun i wr => ∃ k : Nat, k ≤ n ∧ i = .int .i64 k ∧ SeqRel B b l [] (trs L) w k wr ∧ Box1 w.heap.size (ptr b 0) 111 wr ∧ Box1 (w.heap.size + 1) (.slice (some ⟨q, r, none⟩) n cap) 27 wr) (fun i _ => n - (intOf i).toNat)
  case atStart => exact ⟨0, Nat.zero_le _, rfl, S0.out, G0.out, H0.out⟩
  case round =>
    clear z0 z1 G0 H0
    obtain ⟨k, hk, rfl, hrel, hg, hh⟩ := hrel
    have D0 := Lib.hid hrel.done
    have DE := Lib.hid hrel
    have G0 := Lib.hid hg
    have H0 := Lib.hid hh
    clear hrel hg hh
    by_cases hlt : k < n
    · obtain ⟨t, htk⟩ : ∃ t, L[k]? = some t := ⟨L[k]'(by rw [← HN.out]; exact hlt), by simp⟩
      obtain ⟨y, hy⟩ := HK.out k t htk
      have HY := Lib.hid hy
      have HV := Lib.hid (HVs.out t (List.mem_of_getElem? htk))
      have HBt := Lib.hid (HBs.out t (List.mem_of_getElem? htk))
      have hk1 : (k : Int) < (n : Int) := by omega
      have hk2 : (0 : Int) ≤ (k : Int) := by omega
      have HW := Lib.hid (show wrap64 ((k : Int) + 1) = (k : Int) + 1 from by unfold wrap64; omega)
      have hw64 := HW.out
      have HLt := Lib.hid hlt
      have hA := (Below.refl wr.heap.size wr).alloc (Nat.le_refl _) (.cells #[.int .i64 k] 3)
      have g1 := G0.out.later hA
      have g2 := H0.out.later hA
      have g3 := Box1.new wr (.int .i64 k) 3
      have D1 := D0.out.later HB.out hA
      go_upto_region 4 with fail
      generalize wr.alloc _ = w4 at *
      generalize wr.heap.size = c at *
      have G1 := Lib.hid g1
      have H1 := Lib.hid g2
      have I1 := Lib.hid g3
      have z0 := g1.cell
      have z1 := g2.cell
      have z2 := g3.cell
      replace D1 := Lib.hid D1
      clear hA g1 g2 g3 hy
      by_cases h0 : k = 0
      · subst h0
        have HS := Lib.hid (trs_at0 htk)
        clear htk
        go_wp2_with fail
        refine wp_region_held_drew (S := (fun w' => w'.cell? ⟨w.heap.size, 0, none⟩ = some (ptr b 0) ∧ w'.cell? ⟨w.heap.size + 1, 0, none⟩ = some (.slice (some ⟨q, r, none⟩) n cap) ∧ w'.cell? ⟨c, 0, none⟩ = some (.int .i64 (0 : Nat)))) (by kernel_rfl) (by exact ⟨z0, z1, z2⟩) (fun hHeld => ?_)
        have D2 := Lib.hid (D1.out.drew HB.out)
        have G2 := Lib.hid (G1.out.later (Below.drew (Below.refl _ _)))
        have H2 := Lib.hid (H1.out.later (Below.drew (Below.refl _ _)))
        have I2 := Lib.hid (I1.out.later (Below.drew (Below.refl _ _)))
        refine wpAnyH_take (i := 0) (v := ?_) rfl (by kernel_rfl) (by kernel_rfl) (by kernel_rfl) (fun _ _ _ h => h) (Or.inl ⟨by rfl, ?_⟩) (by assumption) ?_
        rotate_left
        · intro w hSw
          (try dsimp only at hSw)
          go_simp
          try with_reducible rfl
        try simp only [Act.put, List.setIfInBounds_toArray, List.set_cons_zero, List.set_cons_succ]
        refine wpAnyH_take (i := 1) (v := ?_) rfl (by kernel_rfl) (by kernel_rfl) (by kernel_rfl) (fun _ _ _ h => h) (Or.inl ⟨by rfl, ?_⟩) (by assumption) ?_
        rotate_left
        · intro w hSw
          (try dsimp only at hSw)
          go_simp
          try with_reducible rfl
        try simp only [Act.put, List.setIfInBounds_toArray, List.set_cons_zero, List.set_cons_succ]
        refine wpAnyH_take (i := 2) (v := ?_) rfl (by kernel_rfl) (by kernel_rfl) (by kernel_rfl) (fun _ _ _ h => h) (Or.inl ⟨by rfl, ?_⟩) (by assumption) ?_
        rotate_left
        · intro w hSw
          (try dsimp only at hSw)
          go_simp
          try with_reducible rfl
        try simp only [Act.put, List.setIfInBounds_toArray, List.set_cons_zero, List.set_cons_succ]
        refine wpAnyH_take (i := 3) (v := ?_) rfl (by kernel_rfl) (by kernel_rfl) (by kernel_rfl) (fun _ _ _ h => h) (Or.inl ⟨by rfl, ?_⟩) (by assumption) ?_
        rotate_left
        · intro w hSw
          (try dsimp only at hSw)
          go_simp
          try with_reducible rfl
        try simp only [Act.put, List.setIfInBounds_toArray, List.set_cons_zero, List.set_cons_succ]
        refine wpAnyH_take (i := 4) (v := undef) rfl (by kernel_rfl) (by kernel_rfl) (by kernel_rfl) (fun _ _ _ h => h) (Or.inr ⟨by rfl, rfl⟩) (by assumption) ?_
        try simp only [Act.put, List.setIfInBounds_toArray, List.set_cons_zero, List.set_cons_succ, List.getElem_toArray, List.getElem_cons_succ, List.getElem_cons_zero]
        refine wpAnyH_take (i := 5) (v := undef) rfl (by kernel_rfl) (by kernel_rfl) (by kernel_rfl) (fun _ _ _ h => h) (Or.inr ⟨by rfl, rfl⟩) (by assumption) ?_
        try simp only [Act.put, List.setIfInBounds_toArray, List.set_cons_zero, List.set_cons_succ, List.getElem_toArray, List.getElem_cons_succ, List.getElem_cons_zero]
        refine wpAnyH_take (i := 6) (v := undef) rfl (by kernel_rfl) (by kernel_rfl) (by kernel_rfl) (fun _ _ _ h => h) (Or.inr ⟨by rfl, rfl⟩) (by assumption) ?_
        try simp only [Act.put, List.setIfInBounds_toArray, List.set_cons_zero, List.set_cons_succ, List.getElem_toArray, List.getElem_cons_succ, List.getElem_cons_zero]
        refine wpAnyH_take (i := 7) (v := undef) rfl (by kernel_rfl) (by kernel_rfl) (by kernel_rfl) (fun _ _ _ h => h) (Or.inr ⟨by rfl, rfl⟩) (by assumption) ?_
        try simp only [Act.put, List.setIfInBounds_toArray, List.set_cons_zero, List.set_cons_succ, List.getElem_toArray, List.getElem_cons_succ, List.getElem_cons_zero]
        refine wpAnyH_take (i := 8) (v := ?_) rfl (by kernel_rfl) (by kernel_rfl) (by kernel_rfl) (fun _ _ _ h => h) (Or.inl ⟨by rfl, ?_⟩) (by assumption) ?_
        rotate_left
        · intro w hSw
          (try dsimp only at hSw)
          go_simp
          try with_reducible rfl
        try simp only [Act.put, List.setIfInBounds_toArray, List.set_cons_zero, List.set_cons_succ]
        refine wpAnyH_take (i := 9) (v := ?_) rfl (by kernel_rfl) (by kernel_rfl) (by kernel_rfl) (fun _ _ _ h => h) (Or.inl ⟨by rfl, ?_⟩) (by assumption) ?_
        rotate_left
        · intro w hSw
          (try dsimp only at hSw)
          go_simp
          try with_reducible rfl
        try simp only [Act.put, List.setIfInBounds_toArray, List.set_cons_zero, List.set_cons_succ]
        refine wpAnyH_take (i := 10) (v := undef) rfl (by kernel_rfl) (by kernel_rfl) (by kernel_rfl) (fun _ _ _ h => h) (Or.inr ⟨by rfl, rfl⟩) (by assumption) ?_
        try simp only [Act.put, List.setIfInBounds_toArray, List.set_cons_zero, List.set_cons_succ, List.getElem_toArray, List.getElem_cons_succ, List.getElem_cons_zero]
        refine wpAnyH_take (i := 11) (v := undef) rfl (by kernel_rfl) (by kernel_rfl) (by kernel_rfl) (fun _ _ _ h => h) (Or.inr ⟨by rfl, rfl⟩) (by assumption) ?_
        try simp only [Act.put, List.setIfInBounds_toArray, List.set_cons_zero, List.set_cons_succ, List.getElem_toArray, List.getElem_cons_succ, List.getElem_cons_zero]
        refine wpAnyH_take (i := 12) (v := undef) rfl (by kernel_rfl) (by kernel_rfl) (by kernel_rfl) (fun _ _ _ h => h) (Or.inr ⟨by rfl, rfl⟩) (by assumption) ?_
        try simp only [Act.put, List.setIfInBounds_toArray, List.set_cons_zero, List.set_cons_succ, List.getElem_toArray, List.getElem_cons_succ, List.getElem_cons_zero]
        refine wpAnyH_take (i := 13) (v := undef) rfl (by kernel_rfl) (by kernel_rfl) (by kernel_rfl) (fun _ _ _ h => h) (Or.inr ⟨by rfl, rfl⟩) (by assumption) ?_
        try simp only [Act.put, List.setIfInBounds_toArray, List.set_cons_zero, List.set_cons_succ, List.getElem_toArray, List.getElem_cons_succ, List.getElem_cons_zero]
        refine wpAnyH_take (i := 14) (v := undef) rfl (by kernel_rfl) (by kernel_rfl) (by kernel_rfl) (fun _ _ _ h => h) (Or.inr ⟨by rfl, rfl⟩) (by assumption) ?_
        try simp only [Act.put, List.setIfInBounds_toArray, List.set_cons_zero, List.set_cons_succ, List.getElem_toArray, List.getElem_cons_succ, List.getElem_cons_zero]
        refine wpAnyH_take (i := 15) (v := ?_) rfl (by kernel_rfl) (by kernel_rfl) (by kernel_rfl) (fun _ _ _ h => h) (Or.inl ⟨by rfl, ?_⟩) (by assumption) ?_
        rotate_left
        · intro w hSw
          (try dsimp only at hSw)
          go_simp
          try with_reducible rfl
        try simp only [Act.put, List.setIfInBounds_toArray, List.set_cons_zero, List.set_cons_succ]
        refine wpAnyH_take (i := 16) (v := ?_) rfl (by kernel_rfl) (by kernel_rfl) (by kernel_rfl) (fun _ _ _ h => h) (Or.inl ⟨by rfl, ?_⟩) (by assumption) ?_
        rotate_left
        · intro w hSw
          (try dsimp only at hSw)
          go_simp
          try with_reducible rfl
        try simp only [Act.put, List.setIfInBounds_toArray, List.set_cons_zero, List.set_cons_succ]
        refine wpAnyH_ready (rs := [17]) (by kernel_rfl) (by simp) ?_
        refine AllReadyH.cons rfl (fun K hK => ?_) AllReadyH.nil
        go_simp
        have HQ := Lib.hid (between_at (false) D2.out HB.out train1_enter (cap := #[ptr w.heap.size 0, ptr (w.heap.size + 1) 0, ptr c 0]) (fun l' w' hbl ho hW' hl' => clo_train hlt HV.out (G2.out.other ho (by decide) (by decide)) (H2.out.other ho (by decide) (by decide)) (I2.out.other ho (by decide) (by decide)) (HY.out.below (D2.out.below.trans hbl)) hW' hl' (Nat.le_trans HB.out (Nat.le_trans D2.out.below.size hbl.size)) (HT.out.below (D2.out.below.trans hbl))))
        refine HQ.out.mono ?_
        intro e w5 hp
        rcases hp.two with ⟨rfl, h⟩ | ⟨ps, rfl, h⟩
        rotate_left
        · exact ⟨rfl, by rw [HO.out]; exact SeqRel.dead1 HS.out _ (D2.out.dead h)⟩
        have D3 := Lib.hid (D2.out.then h)
        have G3 := Lib.hid (G2.out.other h.other (by decide) (by decide))
        have H3 := Lib.hid (H2.out.other h.other (by decide) (by decide))
        have I3 := Lib.hid (I2.out.other h.other (by decide) (by decide))
        clear hp h
        refine hK.out _ _ ?_ (fun hHeld => ?_)
        · exact ⟨G3.out.cell, H3.out.cell, I3.out.cell⟩
        clear hK
        try simp only [Act.put, List.setIfInBounds_toArray, List.set_cons_zero, List.set_cons_succ]
        refine wpAnyH_done (by kernel_rfl) ?_ _
        go_wp2_with fail
        go_roundw
        case rel => exact ⟨1, HLt.out, by go_num, SeqRel.next1 HS.out D3.out, G3.out, H3.out⟩
        case measure => exact sp_meas (by first | exact Int.lt_succ _ | (rw [HW.out]; exact Int.lt_succ _)) (Int.natCast_nonneg _) (Int.ofNat_lt.2 HLt.out)
      · obtain ⟨m, hm⟩ : ∃ m, k = m + 1 := ⟨k - 1, by omega⟩
        obtain ⟨u, hum⟩ : ∃ u, L[m]? = some u := ⟨L[m]'(by rw [← HN.out]; omega), by simp⟩
        obtain ⟨yu, hyu⟩ := HK.out m u hum
        have HYu := Lib.hid hyu
        have HEu := Lib.hid (HEs.out u (List.mem_of_getElem? hum))
        have HS := Lib.hid (show (trs L)[k]? = some ([32] ++ Pp.rn (Pp.brk (Pp.begins t && Pp.ends u) (Pp.phrase t))) by rw [hm] at htk ⊢; exact trs_at hum htk)
        have hg : (0 : Int) < (k : Int) := by omega
        have hm1 : IntKind.i64.wrap ((k : Int) - 1) = (m : Int) := by rw [IntKind.wrap_i64]; omega
        have hm2 : (m : Int) < (n : Int) := by omega
        have hm3 : (0 : Int) ≤ (m : Int) := by omega
        have hm4 : wrap64 ((k : Int) - 1) = (m : Int) := by unfold wrap64; omega
        clear htk hum hyu hm h0
        go_wp2_with fail
        refine (D1.out.put HB.out ⟨#[32]⟩ (by decide)).mono ?_
        intro e w5 hp
        rcases hp.two with ⟨rfl, h⟩ | ⟨ps, rfl, h⟩
        rotate_left
        · exact ⟨rfl, by rw [HO.out]; exact SeqRel.dead HS.out _ (D1.out.dead h)⟩
        have D2 := Lib.hid (D1.out.then h)
        have G2 := Lib.hid (G1.out.other h.other (by decide) (by decide))
        have H2 := Lib.hid (H1.out.other h.other (by decide) (by decide))
        have I2 := Lib.hid (I1.out.other h.other (by decide) (by decide))
        have x0 := G2.out.cell
        have x1 := H2.out.cell
        have x2 := I2.out.cell
        clear hp h
        go_wp2_with fail
        refine wp_region_held_drew (S := (fun w' => w'.cell? ⟨w.heap.size, 0, none⟩ = some (ptr b 0) ∧ w'.cell? ⟨w.heap.size + 1, 0, none⟩ = some (.slice (some ⟨q, r, none⟩) n cap) ∧ w'.cell? ⟨c, 0, none⟩ = some (.int .i64 k))) (by kernel_rfl) (by exact ⟨x0, x1, x2⟩) (fun hHeld => ?_)
        replace D2 := Lib.hid (D2.out.drew HB.out)
        replace G2 := Lib.hid (G2.out.later (Below.drew (Below.refl _ _)))
        replace H2 := Lib.hid (H2.out.later (Below.drew (Below.refl _ _)))
        replace I2 := Lib.hid (I2.out.later (Below.drew (Below.refl _ _)))
        refine wpAnyH_take (i := 0) (v := ?_) rfl (by kernel_rfl) (by kernel_rfl) (by kernel_rfl) (fun _ _ _ h => h) (Or.inl ⟨by rfl, ?_⟩) (by assumption) ?_
        rotate_left
        · intro w hSw
          (try dsimp only at hSw)
          go_simp
          try with_reducible rfl
        try simp only [Act.put, List.setIfInBounds_toArray, List.set_cons_zero, List.set_cons_succ]
        refine wpAnyH_take (i := 1) (v := ?_) rfl (by kernel_rfl) (by kernel_rfl) (by kernel_rfl) (fun _ _ _ h => h) (Or.inl ⟨by rfl, ?_⟩) (by assumption) ?_
        rotate_left
        · intro w hSw
          (try dsimp only at hSw)
          go_simp
          try with_reducible rfl
        try simp only [Act.put, List.setIfInBounds_toArray, List.set_cons_zero, List.set_cons_succ]
        refine wpAnyH_take (i := 2) (v := ?_) rfl (by kernel_rfl) (by kernel_rfl) (by kernel_rfl) (fun _ _ _ h => h) (Or.inl ⟨by rfl, ?_⟩) (by assumption) ?_
        rotate_left
        · intro w hSw
          (try dsimp only at hSw)
          go_simp
          try with_reducible rfl
        try simp only [Act.put, List.setIfInBounds_toArray, List.set_cons_zero, List.set_cons_succ]
        refine wpAnyH_take (i := 3) (v := ?_) rfl (by kernel_rfl) (by kernel_rfl) (by kernel_rfl) (fun _ _ _ h => h) (Or.inl ⟨by rfl, ?_⟩) (by assumption) ?_
        rotate_left
        · intro w hSw
          (try dsimp only at hSw)
          go_simp
          try with_reducible rfl
        try simp only [Act.put, List.setIfInBounds_toArray, List.set_cons_zero, List.set_cons_succ]
        refine wpAnyH_take (i := 4) (v := ?_) rfl (by kernel_rfl) (by kernel_rfl) (by kernel_rfl) (fun _ _ _ h => h) (Or.inl ⟨by rfl, ?_⟩) (by assumption) ?_
        rotate_left
        · intro w hSw
          (try dsimp only at hSw)
          go_simp
          try with_reducible rfl
        try simp only [Act.put, List.setIfInBounds_toArray, List.set_cons_zero, List.set_cons_succ]
        refine wpAnyH_take (i := 5) (v := ?_) rfl (by kernel_rfl) (by kernel_rfl) (by kernel_rfl) (fun _ _ _ h => h) (Or.inl ⟨by rfl, ?_⟩) (by assumption) ?_
        rotate_left
        · intro w hSw
          (try dsimp only at hSw)
          go_simp
          try with_reducible rfl
        try simp only [Act.put, List.setIfInBounds_toArray, List.set_cons_zero, List.set_cons_succ]
        refine wpAnyH_take (i := 6) (v := ?_) rfl (by kernel_rfl) (by kernel_rfl) (by kernel_rfl) (fun _ _ _ h => h) (Or.inl ⟨by rfl, ?_⟩) (by assumption) ?_
        rotate_left
        · intro w hSw
          (try dsimp only at hSw)
          go_simp
          try with_reducible rfl
        try simp only [Act.put, List.setIfInBounds_toArray, List.set_cons_zero, List.set_cons_succ]
        refine wpAnyH_take (i := 16) (v := ?_) rfl (by kernel_rfl) (by kernel_rfl) (by kernel_rfl) (fun _ _ _ h => h) (Or.inl ⟨by rfl, ?_⟩) (by assumption) ?_
        rotate_left
        · intro w hSw
          (try dsimp only at hSw)
          go_simp
          try with_reducible rfl
        try simp only [Act.put, List.setIfInBounds_toArray, List.set_cons_zero, List.set_cons_succ]
        refine wpAnyH_ready (rs := [7]) (by kernel_rfl) (by simp) ?_
        refine AllReadyH.cons rfl (fun K hK => ?_) AllReadyH.nil
        go_simp
        refine (HBt.out B q (r + k * 6) y _ (HY.out.below D2.out.below)).mono ?_
        rintro e w6 ⟨rfl, h⟩
        have D3 := Lib.hid (D2.out.later HB.out h)
        have G3 := Lib.hid (G2.out.later h)
        have H3 := Lib.hid (H2.out.later h)
        have I3 := Lib.hid (I2.out.later h)
        clear h
        refine hK.out _ _ ?_ (fun hHeld => ?_)
        · exact ⟨G3.out.cell, H3.out.cell, I3.out.cell⟩
        clear hK K
        try simp only [Act.put, List.setIfInBounds_toArray, List.set_cons_zero, List.set_cons_succ]
        have HQ := Lib.hid (fun (so : Bool) (w6 : World) (D3 : Hid (Done B b l ([] ++ (List.take k (trs L)).flatten ++ [32]) w w6)) (G3 : Hid (Box1 w.heap.size (ptr b 0) 111 w6)) (H3 : Hid (Box1 (w.heap.size + 1) (.slice (some ⟨q, r, none⟩) n cap) 27 w6)) (I3 : Hid (Box1 c (.int .i64 k) 3 w6)) => between_at (so) D3.out HB.out train1_enter (cap := #[ptr w.heap.size 0, ptr (w.heap.size + 1) 0, ptr c 0]) (fun l' w' hbl ho hW' hl' => clo_train hlt HV.out (G3.out.other ho (by decide) (by decide)) (H3.out.other ho (by decide) (by decide)) (I3.out.other ho (by decide) (by decide)) (HY.out.below (D3.out.below.trans hbl)) hW' hl' (Nat.le_trans HB.out (Nat.le_trans D3.out.below.size hbl.size)) (HT.out.below (D3.out.below.trans hbl))))
        generalize Pp.begins t = bt at *
        cases bt with
        | false =>
          refine wpAnyH_take (i := 8) (v := ?_) rfl (by kernel_rfl) (by kernel_rfl) (by kernel_rfl) (fun _ _ _ h => h) (Or.inl ⟨by rfl, ?_⟩) (by assumption) ?_
          rotate_left
          · intro w hSw
            (try dsimp only at hSw)
            go_simp
            try with_reducible rfl
          try simp only [Act.put, List.setIfInBounds_toArray, List.set_cons_zero, List.set_cons_succ]
          refine wpAnyH_take (i := 9) (v := ?_) rfl (by kernel_rfl) (by kernel_rfl) (by kernel_rfl) (fun _ _ _ h => h) (Or.inl ⟨by rfl, ?_⟩) (by assumption) ?_
          rotate_left
          · intro w hSw
            (try dsimp only at hSw)
            go_simp
            try with_reducible rfl
          try simp only [Act.put, List.setIfInBounds_toArray, List.set_cons_zero, List.set_cons_succ]
          refine wpAnyH_take (i := 10) (v := undef) rfl (by kernel_rfl) (by kernel_rfl) (by kernel_rfl) (fun _ _ _ h => h) (Or.inr ⟨by rfl, rfl⟩) (by assumption) ?_
          try simp only [Act.put, List.setIfInBounds_toArray, List.set_cons_zero, List.set_cons_succ, List.getElem_toArray, List.getElem_cons_succ, List.getElem_cons_zero]
          refine wpAnyH_take (i := 11) (v := undef) rfl (by kernel_rfl) (by kernel_rfl) (by kernel_rfl) (fun _ _ _ h => h) (Or.inr ⟨by rfl, rfl⟩) (by assumption) ?_
          try simp only [Act.put, List.setIfInBounds_toArray, List.set_cons_zero, List.set_cons_succ, List.getElem_toArray, List.getElem_cons_succ, List.getElem_cons_zero]
          refine wpAnyH_take (i := 12) (v := undef) rfl (by kernel_rfl) (by kernel_rfl) (by kernel_rfl) (fun _ _ _ h => h) (Or.inr ⟨by rfl, rfl⟩) (by assumption) ?_
          try simp only [Act.put, List.setIfInBounds_toArray, List.set_cons_zero, List.set_cons_succ, List.getElem_toArray, List.getElem_cons_succ, List.getElem_cons_zero]
          refine wpAnyH_take (i := 13) (v := undef) rfl (by kernel_rfl) (by kernel_rfl) (by kernel_rfl) (fun _ _ _ h => h) (Or.inr ⟨by rfl, rfl⟩) (by assumption) ?_
          try simp only [Act.put, List.setIfInBounds_toArray, List.set_cons_zero, List.set_cons_succ, List.getElem_toArray, List.getElem_cons_succ, List.getElem_cons_zero]
          refine wpAnyH_take (i := 14) (v := undef) rfl (by kernel_rfl) (by kernel_rfl) (by kernel_rfl) (fun _ _ _ h => h) (Or.inr ⟨by rfl, rfl⟩) (by assumption) ?_
          try simp only [Act.put, List.setIfInBounds_toArray, List.set_cons_zero, List.set_cons_succ, List.getElem_toArray, List.getElem_cons_succ, List.getElem_cons_zero]
          refine wpAnyH_take (i := 15) (v := ?_) rfl (by kernel_rfl) (by kernel_rfl) (by kernel_rfl) (fun _ _ _ h => h) (Or.inl ⟨by rfl, ?_⟩) (by assumption) ?_
          rotate_left
          · intro w hSw
            (try dsimp only at hSw)
            go_simp
            try with_reducible rfl
          try simp only [Act.put, List.setIfInBounds_toArray, List.set_cons_zero, List.set_cons_succ]
          refine wpAnyH_ready (rs := [17]) (by kernel_rfl) (by simp) ?_
          refine AllReadyH.cons rfl (fun K hK => ?_) AllReadyH.nil
          go_simp
          have HQ1 := Lib.hid (HQ.out false w6 D3 G3 H3 I3)
          rw [Bool.false_and, rn_brk] at HS
          refine HQ1.out.mono ?_
          intro e w8 hp
          rcases hp.two with ⟨rfl, h⟩ | ⟨ps, rfl, h⟩
          rotate_left
          · exact ⟨rfl, by rw [HO.out]; exact SeqRel.dead2 HS.out _ (D3.out.dead h)⟩
          have D4 := Lib.hid (D3.out.then h)
          have G4 := Lib.hid (G3.out.other h.other (by decide) (by decide))
          have H4 := Lib.hid (H3.out.other h.other (by decide) (by decide))
          have I4 := Lib.hid (I3.out.other h.other (by decide) (by decide))
          clear hp h
          refine hK.out _ _ ?_ (fun hHeld => ?_)
          · exact ⟨G4.out.cell, H4.out.cell, I4.out.cell⟩
          clear hK
          try simp only [Act.put, List.setIfInBounds_toArray, List.set_cons_zero, List.set_cons_succ]
          refine wpAnyH_done (by kernel_rfl) ?_ _
          go_wp2_with fail
          go_roundw
          case rel => exact ⟨k + 1, HLt.out, by go_num, SeqRel.next HS.out D4.out, G4.out, H4.out⟩
          case measure => exact sp_meas (by first | exact Int.lt_succ _ | (rw [HW.out]; exact Int.lt_succ _)) (Int.natCast_nonneg _) (Int.ofNat_lt.2 HLt.out)
        | true =>
          refine wpAnyH_take (i := 8) (v := ?_) rfl (by kernel_rfl) (by kernel_rfl) (by kernel_rfl) (fun _ _ _ h => h) (Or.inl ⟨by rfl, ?_⟩) (by assumption) ?_
          rotate_left
          · intro w hSw
            (try dsimp only at hSw)
            go_simp
            try with_reducible rfl
          try simp only [Act.put, List.setIfInBounds_toArray, List.set_cons_zero, List.set_cons_succ]
          refine wpAnyH_take (i := 9) (v := ?_) rfl (by kernel_rfl) (by kernel_rfl) (by kernel_rfl) (fun _ _ _ h => h) (Or.inl ⟨by rfl, ?_⟩) (by assumption) ?_
          rotate_left
          · intro w hSw
            (try dsimp only at hSw)
            go_simp
            try with_reducible rfl
          try simp only [Act.put, List.setIfInBounds_toArray, List.set_cons_zero, List.set_cons_succ]
          refine wpAnyH_take (i := 10) (v := ?_) rfl (by kernel_rfl) (by kernel_rfl) (by kernel_rfl) (fun _ _ _ h => h) (Or.inl ⟨by rfl, ?_⟩) (by assumption) ?_
          rotate_left
          · intro w hSw
            (try dsimp only at hSw)
            go_simp
            try with_reducible rfl
          try simp only [Act.put, List.setIfInBounds_toArray, List.set_cons_zero, List.set_cons_succ]
          refine wpAnyH_take (i := 11) (v := ?_) rfl (by kernel_rfl) (by kernel_rfl) (by kernel_rfl) (fun _ _ _ h => h) (Or.inl ⟨by rfl, ?_⟩) (by assumption) ?_
          rotate_left
          · intro w hSw
            (try dsimp only at hSw)
            go_simp
            try with_reducible rfl
          try simp only [Act.put, List.setIfInBounds_toArray, List.set_cons_zero, List.set_cons_succ]
          refine wpAnyH_take (i := 12) (v := ?_) rfl (by kernel_rfl) (by kernel_rfl) (by kernel_rfl) (fun _ _ _ h => h) (Or.inl ⟨by rfl, ?_⟩) (by assumption) ?_
          rotate_left
          · intro w hSw
            (try dsimp only at hSw)
            go_simp
            try with_reducible rfl
          try simp only [Act.put, List.setIfInBounds_toArray, List.set_cons_zero, List.set_cons_succ]
          refine wpAnyH_take (i := 13) (v := ?_) rfl (by kernel_rfl) (by kernel_rfl) (by kernel_rfl) (fun _ _ _ h => h) (Or.inl ⟨by rfl, ?_⟩) (by assumption) ?_
          rotate_left
          · intro w hSw
            (try dsimp only at hSw)
            go_simp
            try with_reducible rfl
          try simp only [Act.put, List.setIfInBounds_toArray, List.set_cons_zero, List.set_cons_succ]
          refine wpAnyH_ready (rs := [14]) (by kernel_rfl) (by simp) ?_
          refine AllReadyH.cons rfl (fun K hK => ?_) AllReadyH.nil
          go_simp
          refine (HEu.out B q (r + m * 6) yu _ (HYu.out.below D3.out.below)).mono ?_
          rintro e w7 ⟨rfl, h⟩
          replace D3 := Lib.hid (D3.out.later HB.out h)
          replace G3 := Lib.hid (G3.out.later h)
          replace H3 := Lib.hid (H3.out.later h)
          replace I3 := Lib.hid (I3.out.later h)
          clear h
          refine hK.out _ _ ?_ (fun hHeld => ?_)
          · exact ⟨G3.out.cell, H3.out.cell, I3.out.cell⟩
          clear hK K
          try simp only [Act.put, List.setIfInBounds_toArray, List.set_cons_zero, List.set_cons_succ]
          rw [Bool.true_and, rn_brk] at HS
          generalize Pp.ends u = eu at *
          have HQ1 := Lib.hid (HQ.out eu w7 D3 G3 H3 I3)
          refine wpAnyH_take (i := 15) (v := ?_) rfl (by kernel_rfl) (by kernel_rfl) (by kernel_rfl) (fun _ _ _ h => h) (Or.inl ⟨by rfl, ?_⟩) (by assumption) ?_
          rotate_left
          · intro w hSw
            (try dsimp only at hSw)
            go_simp
            try with_reducible rfl
          try simp only [Act.put, List.setIfInBounds_toArray, List.set_cons_zero, List.set_cons_succ]
          refine wpAnyH_ready (rs := [17]) (by kernel_rfl) (by simp) ?_
          refine AllReadyH.cons rfl (fun K hK => ?_) AllReadyH.nil
          go_simp
          generalize (if eu = true then 40 :: Pp.rn (Pp.phrase t) ++ [41] else Pp.rn (Pp.phrase t)) = o2 at *
          refine HQ1.out.mono ?_
          intro e w8 hp
          rcases hp.two with ⟨rfl, h⟩ | ⟨ps, rfl, h⟩
          rotate_left
          · exact ⟨rfl, by rw [HO.out]; exact SeqRel.dead2 HS.out _ (D3.out.dead h)⟩
          have D4 := Lib.hid (D3.out.then h)
          have G4 := Lib.hid (G3.out.other h.other (by decide) (by decide))
          have H4 := Lib.hid (H3.out.other h.other (by decide) (by decide))
          have I4 := Lib.hid (I3.out.other h.other (by decide) (by decide))
          clear hp h
          refine hK.out _ _ ?_ (fun hHeld => ?_)
          · exact ⟨G4.out.cell, H4.out.cell, I4.out.cell⟩
          clear hK
          try simp only [Act.put, List.setIfInBounds_toArray, List.set_cons_zero, List.set_cons_succ]
          refine wpAnyH_done (by kernel_rfl) ?_ _
          go_wp2_with fail
          go_roundw
          case rel => exact ⟨k + 1, HLt.out, by go_num, SeqRel.next HS.out D4.out, G4.out, H4.out⟩
          case measure => exact sp_meas (by first | exact Int.lt_succ _ | (rw [HW.out]; exact Int.lt_succ _)) (Int.natCast_nonneg _) (Int.ofNat_lt.2 HLt.out)
    · obtain rfl : k = n := by omega
      have E0 := Lib.hid (DE.out.fin (by rw [trs_length]; exact HN.out.symm))
      clear D0 DE
      go_wp2_with fail
      exact bodyPost_end (results_none rfl _ _ _) rfl (E0.out.to (by rw [HO.out]; simp only [List.nil_append, List.append_nil]))
end Go.Proofs.YtboondbognbnnaaGreatDoor

namespace Go.Proofs.YtboondbognbnnaaGreatDoor
open Go.RowKit
set_option maxRecDepth 100000 in
set_option maxHeartbeats 4000000 in
theorem ph_agenda {l : List T} (h0 : AAt (Pz.made 43 l)) : VAt (Pz.made 43 l) := by
  intro B b p o x lw w ht hW hl hB hT
  obtain ⟨out, hO⟩ : ∃ out, out = Pp.rn (Pp.phrase (Pz.made 43 l)) := ⟨_, rfl⟩
  have c0 := ht.kind
  simp only [Pz.made, T.kind_mk] at c0
  have HQ := Lib.hid (h0 B b p o x lw w ht hW hl hB hT)
  rw [← hO] at HQ ⊢
  clear ht hW hl hB hT hO h0
  go_enter Tryz.func54, Tryz.ntmps54
  go_wp2_with fail
  refine HQ.out.mono ?_
  intro e w1 hp
  rcases hp.two with ⟨rfl, h⟩ | ⟨ps, rfl, h⟩
  rotate_left
  · exact ⟨rfl, h.puts⟩
  have D1 := Lib.hid h
  clear hp h
  go_wp2_with fail
  exact bodyPost_end (results_none rfl _ _ _) rfl D1.out.puts
/-- what a term's function writes, by what the term is -/
structure AllAt (c : Nat) (t : T) : Prop where
  v : c = 0 → VAt t
  n : c = 1 → NAt t
  s : c = 2 → SAt t
  b : c = 3 → BAt t
theorem AllAt.of0 {t : T} (h : VAt t) : AllAt 0 t := ⟨fun _ => h, fun e => (by cases e), fun e => (by cases e), fun e => (by cases e)⟩
theorem AllAt.of1 {t : T} (h : NAt t) : AllAt 1 t := ⟨fun e => (by cases e), fun _ => h, fun e => (by cases e), fun e => (by cases e)⟩
theorem AllAt.of2 {t : T} (h : SAt t) : AllAt 2 t := ⟨fun e => (by cases e), fun e => (by cases e), fun _ => h, fun e => (by cases e)⟩
theorem AllAt.of3 {t : T} (h : BAt t) : AllAt 3 t := ⟨fun e => (by cases e), fun e => (by cases e), fun e => (by cases e), fun _ => h⟩
theorem train_of {L : List T} (hG : ∀ t ∈ L, Pp.G 0 t) (hV : ∀ t ∈ L, VAt t) : TrAt L (trs L).flatten :=
  train_all hV (fun t ht => begins_all (hG t ht) rfl) (fun t ht => ends_all (hG t ht))
theorem all_at {c : Nat} {t : T} (h : Pp.G c t) : AllAt c t := by
  induction h with
  | num sh a h hr => exact .of1 (no_num hr)
  | nam s h => exact .of1 (no_nam h)
  | mon v x hv hx ihv ihx => exact .of1 (no_mon (verb_all (br_all (.mon v x hv hx) (.inl rfl)) rfl (ihv.v rfl)) (ihx.n rfl))
  | dy v x y hv hx hy ihv ihx ihy => exact .of1 (no_dy (verb_all (br_all (.dy v x y hv hx hy) (.inr rfl)) rfl (ihv.v rfl)) (ihx.n rfl) (ihy.n rfl))
  | pick x l hx hl hne ihx ihl => exact .of1 (no_pick (ihx.n rfl) (fun t ht => (ihl t ht).n rfl) hne)
  | say x hx ih => exact .of2 (se_say (ih.n rfl))
  | set s x hs hx ih => exact .of2 (se_set hs (ih.n rfl))
  | cond x b c hx hb hc ihx ihb ihc => exact .of2 (se_cond (ihx.n rfl) (ihb.b rfl) (ihc.b rfl))
  | loop x b hx hb ihx ihb => exact .of2 (se_loop (ihx.n rfl) (ihb.b rfl))
  | body l hl ih => exact .of3 (body_walk fun t ht => (ih t ht).s rfl)
  | prim s h => exact .of0 (ph_text (.inl ⟨rfl, h⟩))
  | name s h => exact .of0 (ph_text (.inr ⟨rfl, h⟩))
  | const x hx hk ih => exact .of0 (ph_const (ih.n rfl))
  | defn n b hn hb ih => exact .of0 (ph_defn hn (ih.b rfl))
  | adv k u hk hu ih => exact .of0 (ph_adv hk (ih.v rfl))
  | conj k u v hk hu hv ihu ihv => exact .of0 (ph_conj hk (ihu.v rfl) (closed_all (ihv.v rfl)))
  | bondL x v hx hk hv ihx ihv => exact .of0 (ph_bondL (ihx.n rfl) (closed_all (ihv.v rfl)))
  | bondR k u x hk hu hx hkx ihu ihx => exact .of0 (ph_bondR hk (ihu.v rfl) (ihx.n rfl))
  | rank a u ha hr hu ih => exact .of0 (ph_rank hr (ih.v rfl))
  | agenda u v l hu hv hl ihu ihv ihl =>
    refine .of0 (ph_agenda ?_)
    cases l with
    | nil => exact ag_one (closed_all (ihu.v rfl)) (ihv.v rfl)
    | cons z L =>
      refine ag_more (closed_all (ihu.v rfl)) ?_
      intro t ht
      rcases List.mem_cons.1 ht with rfl | ht
      · exact ihv.v rfl
      · exact (ihl t ht).v rfl
  | hook k u v hk hu hv ihu ihv =>
    have hT := train_of (L := [u, v]) (fun t ht => by simp at ht; rcases ht with rfl | rfl <;> assumption) (fun t ht => by simp at ht; rcases ht with rfl | rfl; exact ihu.v rfl; exact ihv.v rfl)
    refine .of0 (ph_train (by omega) (by simp) hT ?_)
    rcases hk with rfl | rfl
    · rw [Pp.p_hook]; simp [trs, trTail, Pp.rn, Pp.rn_append, Pp.Pc.bytes]
    · rw [Pp.p_cap]; simp [trs, trTail, Pp.rn, Pp.rn_append, Pp.Pc.bytes]
  | fork u v z hu hv hz ihu ihv ihz =>
    have hT := train_of (L := [u, v, z]) (fun t ht => by simp at ht; rcases ht with rfl | rfl | rfl <;> assumption) (fun t ht => by simp at ht; rcases ht with rfl | rfl | rfl; exact ihu.v rfl; exact ihv.v rfl; exact ihz.v rfl)
    refine .of0 (ph_train (.inr (.inl rfl)) (by simp) hT ?_)
    rw [Pp.p_fork]; simp [trs, trTail, Pp.rn, Pp.rn_append, Pp.Pc.bytes]
end Go.Proofs.YtboondbognbnnaaGreatDoor
