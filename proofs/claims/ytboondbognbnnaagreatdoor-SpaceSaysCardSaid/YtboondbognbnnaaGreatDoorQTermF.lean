/- Package term: good: the ways that come to the kids. Package term: good, May. -/
import Derived.Test.YtboondbognbnnaaGreatDoorQTermD
set_option linter.unusedVariables false
set_option linter.unusedSimpArgs false
namespace Go.Proofs.YtboondbognbnnaaGreatDoor
open Go.RowKit

section
variable {t : T} {x : TV} {tb to B : Nat} {w : World}

set_option maxRecDepth 100000 in
set_option maxHeartbeats 4000000 in
theorem good_way_a (hr : Rep w B t x) (hat : At w tb to x) (hB : B ≤ w.heap.size) (hih : ∀ u ∈ t.kids, GoodAll u) {c : Int} (hc : T.cls x.kind = c) (h0 : (c == 0) = false) (hf : t.fields = true) (hk : t.kidsOk = true) (k23 : (x.kind == 23) = false) :
    Calls Tryz.prog 32 #[.pointer (some ⟨tb, to, none⟩), .bool false] w (GoodPost t false w) := by
  have htb := World.block_lt_of_cell? w _ hat.c0
  have HR := Lib.hid hr
  have HAT := Lib.hid hat
  obtain ⟨t0, t1, t2, t3, t4, t5⟩ := hat
  have HC := Lib.hid (class_known (x := x) hc)
  have HC0 := Lib.hid (show (T.cls t.kind == 0) = false from by rw [← hr.kind, hc]; exact h0)
  have HF := Lib.hid hf
  have HK := Lib.hid hk
  have HIH := Lib.hid hih
  have HU := Lib.hid (show T.under t false = false from by have := k23; rw [hr.kind] at this; simp only [beq_eq_false_iff_ne] at this; simp [T.under, this])
  have HL := Lib.hid hr.kl
  have hk1 : x.kl ≤ 2199023255552 := hr.wee.l1
  have HN := Lib.hid (show T.node t false = true from (by simp only [T.node, bne, HC0.out, HF.out, HK.out, Bool.and_false, Bool.false_and, Bool.not_false, Bool.and_true, Bool.true_and, Bool.or_false]))
  clear hc hf hk hr hih
  go_enter Tryz.func32, Tryz.ntmps32
  go_wp2_with (first | (go_at_call 33; refine (HC.out _).mono ?_; rintro e w1 ⟨rfl, hb1⟩; have B1 := Lib.hid hb1; obtain ⟨hc1, hf1⟩ := bcell hb1; have hz1 := hb1.size; clear hb1 hf1) | (go_at_call 57; refine (fields_known HF.out HR.out HAT.out hB B1.out htb).mono ?_; rintro e w2 ⟨rfl, hb2⟩; have B2 := Lib.hid (B1.out.trans (hb2.mono B1.out.size)); clear hb2; obtain ⟨hc2, hf2⟩ := bcell B2.out; have hz2 := B2.out.size; clear hf2) | (go_at_call 58; refine (kids_known HK.out HR.out HAT.out hB B2.out htb).mono ?_; rintro e w3 ⟨rfl, hb3⟩; have B3 := Lib.hid (B2.out.trans (hb3.mono B2.out.size)); clear hb3; obtain ⟨hc3, hf3⟩ := bcell B3.out; have hz3 := B3.out.size; clear hf3))
  clear hc1 hc2 hc3
  go_loopw [58] (fun i wr => ∃ k : Nat, k ≤ x.kl ∧ i = .int .i64 k ∧ Hid (goodTill t.kids false k) ∧ Below w.heap.size w wr) (fun i _ => x.kl - (intOf i).toNat)
  case atStart => exact ⟨0, Nat.zero_le _, rfl, goodTill_zero _ _, B3.out⟩
  case round =>
    obtain ⟨k, hk, rfl, hok, hbel⟩ := hrel
    have t5' : wr.cell? ⟨tb, to + 5, none⟩ = some (.slice x.ka x.kl x.kc) := (hbel.cell (p := ⟨tb, to + 5, none⟩) htb).trans t5
    by_cases hlt : k < x.kl
    · obtain ⟨u, hu⟩ : ∃ u, t.kids[k]? = some u := ⟨t.kids[k]'(by rw [← HL.out]; exact hlt), by simp⟩
      obtain ⟨b, o, y, he, hb, hat, hru⟩ := HR.out.kid hu
      have HU2 := Lib.hid hu
      have HB := Lib.hid hbel
      rw [he] at t5'
      cases hv : T.good u false
      all_goals
        have HG := Lib.hid (good_known (HIH.out u (List.mem_of_getElem? HU2.out)) (hru.below HB.out hB) (hat.keep hb (Keeps.of_below HB.out hB)) (Nat.le_trans hB HB.out.size) hv)
        have HV := Lib.hid hv
        clear hu hat hru he hbel hv
        go_wp2_with (go_at_call 32; refine HG.out.mono ?_; rintro e w2 ⟨rfl, hb2⟩)
        have HB2 := Lib.hid (HB.out.trans (hb2.mono HB.out.size))
        clear hb2 t5'
      · go_ret
        exact GoodPost.mk' (by rw [T.good_eq, HU.out, goodL_false HU2.out HV.out]; simp) HB2.out
      · go_roundw
        case rel => exact ⟨k + 1, by omega, by go_num, goodTill_succ hok.out HU2.out HV.out, HB2.out⟩
        case measure => simp [intOf]; omega
    · obtain rfl : k = x.kl := by omega
      have HB := Lib.hid hbel
      clear hbel
      go_wp2_with fail
      go_ret
      exact GoodPost.mk' (by rw [T.good_eq, HU.out, goodTill_all (by rw [← HL.out]; exact hok.out), HN.out]; rfl) HB.out

set_option maxRecDepth 100000 in
set_option maxHeartbeats 4000000 in
theorem good_way_bt (hr : Rep w B t x) (hat : At w tb to x) (hB : B ≤ w.heap.size) (hih : ∀ u ∈ t.kids, GoodAll u) {c : Int} (hc : T.cls x.kind = c) (h0 : (c == 0) = false) (hf : t.fields = true) (hk : t.kidsOk = true) (hkd : x.kind = 23) (hn : (x.n == 1) = true) :
    Calls Tryz.prog 32 #[.pointer (some ⟨tb, to, none⟩), .bool false] w (GoodPost t false w) := by
  have htb := World.block_lt_of_cell? w _ hat.c0
  have HR := Lib.hid hr
  have HAT := Lib.hid hat
  obtain ⟨t0, t1, t2, t3, t4, t5⟩ := hat
  have HC := Lib.hid (class_known (x := x) hc)
  have HC0 := Lib.hid (show (T.cls t.kind == 0) = false from by rw [← hr.kind, hc]; exact h0)
  have HF := Lib.hid hf
  have HK := Lib.hid hk
  have HIH := Lib.hid hih
  have HU := Lib.hid (show T.under t false = true from by rw [T.under, ← hr.kind, hkd, ← hr.n, hn]; rfl)
  have HL := Lib.hid hr.kl
  have hk1 : x.kl ≤ 2199023255552 := hr.wee.l1
  have HN := Lib.hid (show T.node t false = true from (by simp only [T.node, bne, HC0.out, HF.out, HK.out, Bool.and_false, Bool.false_and, Bool.not_false, Bool.and_true, Bool.true_and, Bool.or_false]))
  clear hc hf hk hr hih
  rw [hkd] at t0 HC
  clear hkd
  go_enter Tryz.func32, Tryz.ntmps32
  go_wp2_with (first | (go_at_call 33; refine (HC.out _).mono ?_; rintro e w1 ⟨rfl, hb1⟩; have B1 := Lib.hid hb1; obtain ⟨hc1, hf1⟩ := bcell hb1; have hz1 := hb1.size; clear hb1 hf1) | (go_at_call 57; refine (fields_known HF.out HR.out HAT.out hB B1.out htb).mono ?_; rintro e w2 ⟨rfl, hb2⟩; have B2 := Lib.hid (B1.out.trans (hb2.mono B1.out.size)); clear hb2; obtain ⟨hc2, hf2⟩ := bcell B2.out; have hz2 := B2.out.size; clear hf2) | (go_at_call 58; refine (kids_known HK.out HR.out HAT.out hB B2.out htb).mono ?_; rintro e w3 ⟨rfl, hb3⟩; have B3 := Lib.hid (B2.out.trans (hb3.mono B2.out.size)); clear hb3; obtain ⟨hc3, hf3⟩ := bcell B3.out; have hz3 := B3.out.size; clear hf3))
  clear hc1 hc2 hc3
  go_loopw [58] (fun i wr => ∃ k : Nat, k ≤ x.kl ∧ i = .int .i64 k ∧ Hid (goodTill t.kids true k) ∧ Below w.heap.size w wr) (fun i _ => x.kl - (intOf i).toNat)
  case atStart => exact ⟨0, Nat.zero_le _, rfl, goodTill_zero _ _, B3.out⟩
  case round =>
    obtain ⟨k, hk, rfl, hok, hbel⟩ := hrel
    have t5' : wr.cell? ⟨tb, to + 5, none⟩ = some (.slice x.ka x.kl x.kc) := (hbel.cell (p := ⟨tb, to + 5, none⟩) htb).trans t5
    by_cases hlt : k < x.kl
    · obtain ⟨u, hu⟩ : ∃ u, t.kids[k]? = some u := ⟨t.kids[k]'(by rw [← HL.out]; exact hlt), by simp⟩
      obtain ⟨b, o, y, he, hb, hat, hru⟩ := HR.out.kid hu
      have HU2 := Lib.hid hu
      have HB := Lib.hid hbel
      rw [he] at t5'
      cases hv : T.good u true
      all_goals
        have HG := Lib.hid (good_known (HIH.out u (List.mem_of_getElem? HU2.out)) (hru.below HB.out hB) (hat.keep hb (Keeps.of_below HB.out hB)) (Nat.le_trans hB HB.out.size) hv)
        have HV := Lib.hid hv
        clear hu hat hru he hbel hv
        go_wp2_with (go_at_call 32; refine HG.out.mono ?_; rintro e w2 ⟨rfl, hb2⟩)
        have HB2 := Lib.hid (HB.out.trans (hb2.mono HB.out.size))
        clear hb2 t5'
      · go_ret
        exact GoodPost.mk' (by rw [T.good_eq, HU.out, goodL_false HU2.out HV.out]; simp) HB2.out
      · go_roundw
        case rel => exact ⟨k + 1, by omega, by go_num, goodTill_succ hok.out HU2.out HV.out, HB2.out⟩
        case measure => simp [intOf]; omega
    · obtain rfl : k = x.kl := by omega
      have HB := Lib.hid hbel
      clear hbel
      go_wp2_with fail
      go_ret
      exact GoodPost.mk' (by rw [T.good_eq, HU.out, goodTill_all (by rw [← HL.out]; exact hok.out), HN.out]; rfl) HB.out

set_option maxRecDepth 100000 in
set_option maxHeartbeats 4000000 in
theorem good_way_bf (hr : Rep w B t x) (hat : At w tb to x) (hB : B ≤ w.heap.size) (hih : ∀ u ∈ t.kids, GoodAll u) {c : Int} (hc : T.cls x.kind = c) (h0 : (c == 0) = false) (hf : t.fields = true) (hk : t.kidsOk = true) (hkd : x.kind = 23) (hn : (x.n == 1) = false) :
    Calls Tryz.prog 32 #[.pointer (some ⟨tb, to, none⟩), .bool false] w (GoodPost t false w) := by
  have htb := World.block_lt_of_cell? w _ hat.c0
  have HR := Lib.hid hr
  have HAT := Lib.hid hat
  obtain ⟨t0, t1, t2, t3, t4, t5⟩ := hat
  have HC := Lib.hid (class_known (x := x) hc)
  have HC0 := Lib.hid (show (T.cls t.kind == 0) = false from by rw [← hr.kind, hc]; exact h0)
  have HF := Lib.hid hf
  have HK := Lib.hid hk
  have HIH := Lib.hid hih
  have HU := Lib.hid (show T.under t false = false from by rw [T.under, ← hr.kind, hkd, ← hr.n, hn]; rfl)
  have HL := Lib.hid hr.kl
  have hk1 : x.kl ≤ 2199023255552 := hr.wee.l1
  have HN := Lib.hid (show T.node t false = true from (by simp only [T.node, bne, HC0.out, HF.out, HK.out, Bool.and_false, Bool.false_and, Bool.not_false, Bool.and_true, Bool.true_and, Bool.or_false]))
  clear hc hf hk hr hih
  rw [hkd] at t0 HC
  clear hkd
  go_enter Tryz.func32, Tryz.ntmps32
  go_wp2_with (first | (go_at_call 33; refine (HC.out _).mono ?_; rintro e w1 ⟨rfl, hb1⟩; have B1 := Lib.hid hb1; obtain ⟨hc1, hf1⟩ := bcell hb1; have hz1 := hb1.size; clear hb1 hf1) | (go_at_call 57; refine (fields_known HF.out HR.out HAT.out hB B1.out htb).mono ?_; rintro e w2 ⟨rfl, hb2⟩; have B2 := Lib.hid (B1.out.trans (hb2.mono B1.out.size)); clear hb2; obtain ⟨hc2, hf2⟩ := bcell B2.out; have hz2 := B2.out.size; clear hf2) | (go_at_call 58; refine (kids_known HK.out HR.out HAT.out hB B2.out htb).mono ?_; rintro e w3 ⟨rfl, hb3⟩; have B3 := Lib.hid (B2.out.trans (hb3.mono B2.out.size)); clear hb3; obtain ⟨hc3, hf3⟩ := bcell B3.out; have hz3 := B3.out.size; clear hf3))
  clear hc1 hc2 hc3
  go_loopw [58] (fun i wr => ∃ k : Nat, k ≤ x.kl ∧ i = .int .i64 k ∧ Hid (goodTill t.kids false k) ∧ Below w.heap.size w wr) (fun i _ => x.kl - (intOf i).toNat)
  case atStart => exact ⟨0, Nat.zero_le _, rfl, goodTill_zero _ _, B3.out⟩
  case round =>
    obtain ⟨k, hk, rfl, hok, hbel⟩ := hrel
    have t5' : wr.cell? ⟨tb, to + 5, none⟩ = some (.slice x.ka x.kl x.kc) := (hbel.cell (p := ⟨tb, to + 5, none⟩) htb).trans t5
    by_cases hlt : k < x.kl
    · obtain ⟨u, hu⟩ : ∃ u, t.kids[k]? = some u := ⟨t.kids[k]'(by rw [← HL.out]; exact hlt), by simp⟩
      obtain ⟨b, o, y, he, hb, hat, hru⟩ := HR.out.kid hu
      have HU2 := Lib.hid hu
      have HB := Lib.hid hbel
      rw [he] at t5'
      cases hv : T.good u false
      all_goals
        have HG := Lib.hid (good_known (HIH.out u (List.mem_of_getElem? HU2.out)) (hru.below HB.out hB) (hat.keep hb (Keeps.of_below HB.out hB)) (Nat.le_trans hB HB.out.size) hv)
        have HV := Lib.hid hv
        clear hu hat hru he hbel hv
        go_wp2_with (go_at_call 32; refine HG.out.mono ?_; rintro e w2 ⟨rfl, hb2⟩)
        have HB2 := Lib.hid (HB.out.trans (hb2.mono HB.out.size))
        clear hb2 t5'
      · go_ret
        exact GoodPost.mk' (by rw [T.good_eq, HU.out, goodL_false HU2.out HV.out]; simp) HB2.out
      · go_roundw
        case rel => exact ⟨k + 1, by omega, by go_num, goodTill_succ hok.out HU2.out HV.out, HB2.out⟩
        case measure => simp [intOf]; omega
    · obtain rfl : k = x.kl := by omega
      have HB := Lib.hid hbel
      clear hbel
      go_wp2_with fail
      go_ret
      exact GoodPost.mk' (by rw [T.good_eq, HU.out, goodTill_all (by rw [← HL.out]; exact hok.out), HN.out]; rfl) HB.out

set_option maxRecDepth 100000 in
set_option maxHeartbeats 4000000 in
theorem good_way_c (hr : Rep w B t x) (hat : At w tb to x) (hB : B ≤ w.heap.size) (hih : ∀ u ∈ t.kids, GoodAll u) {c : Int} (hc : T.cls x.kind = c) (h0 : (c == 0) = false) (hf : t.fields = true) (hk : t.kidsOk = true) (hkd : x.kind = 2) (hx : (x.text.toList == [120]) = false) :
    Calls Tryz.prog 32 #[.pointer (some ⟨tb, to, none⟩), .bool true] w (GoodPost t true w) := by
  have htb := World.block_lt_of_cell? w _ hat.c0
  have HR := Lib.hid hr
  have HAT := Lib.hid hat
  obtain ⟨t0, t1, t2, t3, t4, t5⟩ := hat
  have HC := Lib.hid (class_known (x := x) hc)
  have HC0 := Lib.hid (show (T.cls t.kind == 0) = false from by rw [← hr.kind, hc]; exact h0)
  have HF := Lib.hid hf
  have HK := Lib.hid hk
  have HIH := Lib.hid hih
  have HX := Lib.hid (show (t.text.data.toList == [120]) = false from by rw [← hr.text, ← ByteArray.toList_eq]; exact hx)
  have HU := Lib.hid (show T.under t true = true from by rw [T.under, ← hr.kind, hkd]; rfl)
  have HL := Lib.hid hr.kl
  have hk1 : x.kl ≤ 2199023255552 := hr.wee.l1
  have HN := Lib.hid (show T.node t true = true from (by simp only [T.node, bne, HC0.out, HF.out, HK.out, HX.out, Bool.and_false, Bool.false_and, Bool.not_false, Bool.and_true, Bool.true_and, Bool.or_false]))
  clear hc hf hk hr hih
  rw [hkd] at t0 HC
  clear hkd
  go_enter Tryz.func32, Tryz.ntmps32
  go_wp2_with (first | (go_at_call 33; refine (HC.out _).mono ?_; rintro e w1 ⟨rfl, hb1⟩; have B1 := Lib.hid hb1; obtain ⟨hc1, hf1⟩ := bcell hb1; have hz1 := hb1.size; clear hb1 hf1) | (go_at_call 57; refine (fields_known HF.out HR.out HAT.out hB B1.out htb).mono ?_; rintro e w2 ⟨rfl, hb2⟩; have B2 := Lib.hid (B1.out.trans (hb2.mono B1.out.size)); clear hb2; obtain ⟨hc2, hf2⟩ := bcell B2.out; have hz2 := B2.out.size; clear hf2) | (go_at_call 58; refine (kids_known HK.out HR.out HAT.out hB B2.out htb).mono ?_; rintro e w3 ⟨rfl, hb3⟩; have B3 := Lib.hid (B2.out.trans (hb3.mono B2.out.size)); clear hb3; obtain ⟨hc3, hf3⟩ := bcell B3.out; have hz3 := B3.out.size; clear hf3))
  clear hc1 hc2 hc3
  go_loopw [58] (fun i wr => ∃ k : Nat, k ≤ x.kl ∧ i = .int .i64 k ∧ Hid (goodTill t.kids true k) ∧ Below w.heap.size w wr) (fun i _ => x.kl - (intOf i).toNat)
  case atStart => exact ⟨0, Nat.zero_le _, rfl, goodTill_zero _ _, B3.out⟩
  case round =>
    obtain ⟨k, hk, rfl, hok, hbel⟩ := hrel
    have t5' : wr.cell? ⟨tb, to + 5, none⟩ = some (.slice x.ka x.kl x.kc) := (hbel.cell (p := ⟨tb, to + 5, none⟩) htb).trans t5
    by_cases hlt : k < x.kl
    · obtain ⟨u, hu⟩ : ∃ u, t.kids[k]? = some u := ⟨t.kids[k]'(by rw [← HL.out]; exact hlt), by simp⟩
      obtain ⟨b, o, y, he, hb, hat, hru⟩ := HR.out.kid hu
      have HU2 := Lib.hid hu
      have HB := Lib.hid hbel
      rw [he] at t5'
      cases hv : T.good u true
      all_goals
        have HG := Lib.hid (good_known (HIH.out u (List.mem_of_getElem? HU2.out)) (hru.below HB.out hB) (hat.keep hb (Keeps.of_below HB.out hB)) (Nat.le_trans hB HB.out.size) hv)
        have HV := Lib.hid hv
        clear hu hat hru he hbel hv
        go_wp2_with (go_at_call 32; refine HG.out.mono ?_; rintro e w2 ⟨rfl, hb2⟩)
        have HB2 := Lib.hid (HB.out.trans (hb2.mono HB.out.size))
        clear hb2 t5'
      · go_ret
        exact GoodPost.mk' (by rw [T.good_eq, HU.out, goodL_false HU2.out HV.out]; simp) HB2.out
      · go_roundw
        case rel => exact ⟨k + 1, by omega, by go_num, goodTill_succ hok.out HU2.out HV.out, HB2.out⟩
        case measure => simp [intOf]; omega
    · obtain rfl : k = x.kl := by omega
      have HB := Lib.hid hbel
      clear hbel
      go_wp2_with fail
      go_ret
      exact GoodPost.mk' (by rw [T.good_eq, HU.out, goodTill_all (by rw [← HL.out]; exact hok.out), HN.out]; rfl) HB.out

set_option maxRecDepth 100000 in
set_option maxHeartbeats 4000000 in
theorem good_way_d (hr : Rep w B t x) (hat : At w tb to x) (hB : B ≤ w.heap.size) (hih : ∀ u ∈ t.kids, GoodAll u) {c : Int} (hc : T.cls x.kind = c) (h0 : (c == 0) = false) (hf : t.fields = true) (hk : t.kidsOk = true) (hkd : x.kind = 11) (hx : (x.text.toList == [120]) = false) :
    Calls Tryz.prog 32 #[.pointer (some ⟨tb, to, none⟩), .bool true] w (GoodPost t true w) := by
  have htb := World.block_lt_of_cell? w _ hat.c0
  have HR := Lib.hid hr
  have HAT := Lib.hid hat
  obtain ⟨t0, t1, t2, t3, t4, t5⟩ := hat
  have HC := Lib.hid (class_known (x := x) hc)
  have HC0 := Lib.hid (show (T.cls t.kind == 0) = false from by rw [← hr.kind, hc]; exact h0)
  have HF := Lib.hid hf
  have HK := Lib.hid hk
  have HIH := Lib.hid hih
  have HX := Lib.hid (show (t.text.data.toList == [120]) = false from by rw [← hr.text, ← ByteArray.toList_eq]; exact hx)
  have HU := Lib.hid (show T.under t true = true from by rw [T.under, ← hr.kind, hkd]; rfl)
  have HL := Lib.hid hr.kl
  have hk1 : x.kl ≤ 2199023255552 := hr.wee.l1
  have HN := Lib.hid (show T.node t true = true from (by simp only [T.node, bne, HC0.out, HF.out, HK.out, HX.out, Bool.and_false, Bool.false_and, Bool.not_false, Bool.and_true, Bool.true_and, Bool.or_false]))
  clear hc hf hk hr hih
  rw [hkd] at t0 HC
  clear hkd
  go_enter Tryz.func32, Tryz.ntmps32
  go_wp2_with (first | (go_at_call 33; refine (HC.out _).mono ?_; rintro e w1 ⟨rfl, hb1⟩; have B1 := Lib.hid hb1; obtain ⟨hc1, hf1⟩ := bcell hb1; have hz1 := hb1.size; clear hb1 hf1) | (go_at_call 57; refine (fields_known HF.out HR.out HAT.out hB B1.out htb).mono ?_; rintro e w2 ⟨rfl, hb2⟩; have B2 := Lib.hid (B1.out.trans (hb2.mono B1.out.size)); clear hb2; obtain ⟨hc2, hf2⟩ := bcell B2.out; have hz2 := B2.out.size; clear hf2) | (go_at_call 58; refine (kids_known HK.out HR.out HAT.out hB B2.out htb).mono ?_; rintro e w3 ⟨rfl, hb3⟩; have B3 := Lib.hid (B2.out.trans (hb3.mono B2.out.size)); clear hb3; obtain ⟨hc3, hf3⟩ := bcell B3.out; have hz3 := B3.out.size; clear hf3))
  clear hc1 hc2 hc3
  go_loopw [58] (fun i wr => ∃ k : Nat, k ≤ x.kl ∧ i = .int .i64 k ∧ Hid (goodTill t.kids true k) ∧ Below w.heap.size w wr) (fun i _ => x.kl - (intOf i).toNat)
  case atStart => exact ⟨0, Nat.zero_le _, rfl, goodTill_zero _ _, B3.out⟩
  case round =>
    obtain ⟨k, hk, rfl, hok, hbel⟩ := hrel
    have t5' : wr.cell? ⟨tb, to + 5, none⟩ = some (.slice x.ka x.kl x.kc) := (hbel.cell (p := ⟨tb, to + 5, none⟩) htb).trans t5
    by_cases hlt : k < x.kl
    · obtain ⟨u, hu⟩ : ∃ u, t.kids[k]? = some u := ⟨t.kids[k]'(by rw [← HL.out]; exact hlt), by simp⟩
      obtain ⟨b, o, y, he, hb, hat, hru⟩ := HR.out.kid hu
      have HU2 := Lib.hid hu
      have HB := Lib.hid hbel
      rw [he] at t5'
      cases hv : T.good u true
      all_goals
        have HG := Lib.hid (good_known (HIH.out u (List.mem_of_getElem? HU2.out)) (hru.below HB.out hB) (hat.keep hb (Keeps.of_below HB.out hB)) (Nat.le_trans hB HB.out.size) hv)
        have HV := Lib.hid hv
        clear hu hat hru he hbel hv
        go_wp2_with (go_at_call 32; refine HG.out.mono ?_; rintro e w2 ⟨rfl, hb2⟩)
        have HB2 := Lib.hid (HB.out.trans (hb2.mono HB.out.size))
        clear hb2 t5'
      · go_ret
        exact GoodPost.mk' (by rw [T.good_eq, HU.out, goodL_false HU2.out HV.out]; simp) HB2.out
      · go_roundw
        case rel => exact ⟨k + 1, by omega, by go_num, goodTill_succ hok.out HU2.out HV.out, HB2.out⟩
        case measure => simp [intOf]; omega
    · obtain rfl : k = x.kl := by omega
      have HB := Lib.hid hbel
      clear hbel
      go_wp2_with fail
      go_ret
      exact GoodPost.mk' (by rw [T.good_eq, HU.out, goodTill_all (by rw [← HL.out]; exact hok.out), HN.out]; rfl) HB.out

set_option maxRecDepth 100000 in
set_option maxHeartbeats 4000000 in
theorem good_way_e (hr : Rep w B t x) (hat : At w tb to x) (hB : B ≤ w.heap.size) (hih : ∀ u ∈ t.kids, GoodAll u) {c : Int} (hc : T.cls x.kind = c) (h0 : (c == 0) = false) (hf : t.fields = true) (hk : t.kidsOk = true) (k2 : (x.kind == 2) = false) (k11 : (x.kind == 11) = false) (k23 : (x.kind == 23) = false) :
    Calls Tryz.prog 32 #[.pointer (some ⟨tb, to, none⟩), .bool true] w (GoodPost t true w) := by
  have htb := World.block_lt_of_cell? w _ hat.c0
  have HR := Lib.hid hr
  have HAT := Lib.hid hat
  obtain ⟨t0, t1, t2, t3, t4, t5⟩ := hat
  have HC := Lib.hid (class_known (x := x) hc)
  have HC0 := Lib.hid (show (T.cls t.kind == 0) = false from by rw [← hr.kind, hc]; exact h0)
  have HF := Lib.hid hf
  have HK := Lib.hid hk
  have HIH := Lib.hid hih
  have HX := Lib.hid (show (t.kind == 2) = false ∧ (t.kind == 11) = false from by rw [← hr.kind]; exact ⟨k2, k11⟩)
  have HU := Lib.hid (show T.under t true = true from by have := k23; rw [hr.kind] at this; simp only [beq_eq_false_iff_ne] at this; simp [T.under, this])
  have HL := Lib.hid hr.kl
  have hk1 : x.kl ≤ 2199023255552 := hr.wee.l1
  have HN := Lib.hid (show T.node t true = true from (by simp only [T.node, bne, HC0.out, HF.out, HK.out, HX.out.1, HX.out.2, Bool.and_false, Bool.false_and, Bool.not_false, Bool.and_true, Bool.true_and, Bool.or_false]))
  clear hc hf hk hr hih
  go_enter Tryz.func32, Tryz.ntmps32
  go_wp2_with (first | (go_at_call 33; refine (HC.out _).mono ?_; rintro e w1 ⟨rfl, hb1⟩; have B1 := Lib.hid hb1; obtain ⟨hc1, hf1⟩ := bcell hb1; have hz1 := hb1.size; clear hb1 hf1) | (go_at_call 57; refine (fields_known HF.out HR.out HAT.out hB B1.out htb).mono ?_; rintro e w2 ⟨rfl, hb2⟩; have B2 := Lib.hid (B1.out.trans (hb2.mono B1.out.size)); clear hb2; obtain ⟨hc2, hf2⟩ := bcell B2.out; have hz2 := B2.out.size; clear hf2) | (go_at_call 58; refine (kids_known HK.out HR.out HAT.out hB B2.out htb).mono ?_; rintro e w3 ⟨rfl, hb3⟩; have B3 := Lib.hid (B2.out.trans (hb3.mono B2.out.size)); clear hb3; obtain ⟨hc3, hf3⟩ := bcell B3.out; have hz3 := B3.out.size; clear hf3))
  clear hc1 hc2 hc3
  go_loopw [58] (fun i wr => ∃ k : Nat, k ≤ x.kl ∧ i = .int .i64 k ∧ Hid (goodTill t.kids true k) ∧ Below w.heap.size w wr) (fun i _ => x.kl - (intOf i).toNat)
  case atStart => exact ⟨0, Nat.zero_le _, rfl, goodTill_zero _ _, B3.out⟩
  case round =>
    obtain ⟨k, hk, rfl, hok, hbel⟩ := hrel
    have t5' : wr.cell? ⟨tb, to + 5, none⟩ = some (.slice x.ka x.kl x.kc) := (hbel.cell (p := ⟨tb, to + 5, none⟩) htb).trans t5
    by_cases hlt : k < x.kl
    · obtain ⟨u, hu⟩ : ∃ u, t.kids[k]? = some u := ⟨t.kids[k]'(by rw [← HL.out]; exact hlt), by simp⟩
      obtain ⟨b, o, y, he, hb, hat, hru⟩ := HR.out.kid hu
      have HU2 := Lib.hid hu
      have HB := Lib.hid hbel
      rw [he] at t5'
      cases hv : T.good u true
      all_goals
        have HG := Lib.hid (good_known (HIH.out u (List.mem_of_getElem? HU2.out)) (hru.below HB.out hB) (hat.keep hb (Keeps.of_below HB.out hB)) (Nat.le_trans hB HB.out.size) hv)
        have HV := Lib.hid hv
        clear hu hat hru he hbel hv
        go_wp2_with (go_at_call 32; refine HG.out.mono ?_; rintro e w2 ⟨rfl, hb2⟩)
        have HB2 := Lib.hid (HB.out.trans (hb2.mono HB.out.size))
        clear hb2 t5'
      · go_ret
        exact GoodPost.mk' (by rw [T.good_eq, HU.out, goodL_false HU2.out HV.out]; simp) HB2.out
      · go_roundw
        case rel => exact ⟨k + 1, by omega, by go_num, goodTill_succ hok.out HU2.out HV.out, HB2.out⟩
        case measure => simp [intOf]; omega
    · obtain rfl : k = x.kl := by omega
      have HB := Lib.hid hbel
      clear hbel
      go_wp2_with fail
      go_ret
      exact GoodPost.mk' (by rw [T.good_eq, HU.out, goodTill_all (by rw [← HL.out]; exact hok.out), HN.out]; rfl) HB.out

set_option maxRecDepth 100000 in
set_option maxHeartbeats 4000000 in
theorem good_way_ft (hr : Rep w B t x) (hat : At w tb to x) (hB : B ≤ w.heap.size) (hih : ∀ u ∈ t.kids, GoodAll u) {c : Int} (hc : T.cls x.kind = c) (h0 : (c == 0) = false) (hf : t.fields = true) (hk : t.kidsOk = true) (hkd : x.kind = 23) (hn : (x.n == 1) = true) :
    Calls Tryz.prog 32 #[.pointer (some ⟨tb, to, none⟩), .bool true] w (GoodPost t true w) := by
  have htb := World.block_lt_of_cell? w _ hat.c0
  have HR := Lib.hid hr
  have HAT := Lib.hid hat
  obtain ⟨t0, t1, t2, t3, t4, t5⟩ := hat
  have HC := Lib.hid (class_known (x := x) hc)
  have HC0 := Lib.hid (show (T.cls t.kind == 0) = false from by rw [← hr.kind, hc]; exact h0)
  have HF := Lib.hid hf
  have HK := Lib.hid hk
  have HIH := Lib.hid hih
  have HX := Lib.hid (show (t.kind == 2) = false ∧ (t.kind == 11) = false from by rw [← hr.kind, hkd]; exact ⟨rfl, rfl⟩)
  have HU := Lib.hid (show T.under t true = true from by rw [T.under, ← hr.kind, hkd, ← hr.n, hn]; rfl)
  have HL := Lib.hid hr.kl
  have hk1 : x.kl ≤ 2199023255552 := hr.wee.l1
  have HN := Lib.hid (show T.node t true = true from (by simp only [T.node, bne, HC0.out, HF.out, HK.out, HX.out.1, HX.out.2, Bool.and_false, Bool.false_and, Bool.not_false, Bool.and_true, Bool.true_and, Bool.or_false]))
  clear hc hf hk hr hih
  rw [hkd] at t0 HC
  clear hkd
  go_enter Tryz.func32, Tryz.ntmps32
  go_wp2_with (first | (go_at_call 33; refine (HC.out _).mono ?_; rintro e w1 ⟨rfl, hb1⟩; have B1 := Lib.hid hb1; obtain ⟨hc1, hf1⟩ := bcell hb1; have hz1 := hb1.size; clear hb1 hf1) | (go_at_call 57; refine (fields_known HF.out HR.out HAT.out hB B1.out htb).mono ?_; rintro e w2 ⟨rfl, hb2⟩; have B2 := Lib.hid (B1.out.trans (hb2.mono B1.out.size)); clear hb2; obtain ⟨hc2, hf2⟩ := bcell B2.out; have hz2 := B2.out.size; clear hf2) | (go_at_call 58; refine (kids_known HK.out HR.out HAT.out hB B2.out htb).mono ?_; rintro e w3 ⟨rfl, hb3⟩; have B3 := Lib.hid (B2.out.trans (hb3.mono B2.out.size)); clear hb3; obtain ⟨hc3, hf3⟩ := bcell B3.out; have hz3 := B3.out.size; clear hf3))
  clear hc1 hc2 hc3
  go_loopw [58] (fun i wr => ∃ k : Nat, k ≤ x.kl ∧ i = .int .i64 k ∧ Hid (goodTill t.kids true k) ∧ Below w.heap.size w wr) (fun i _ => x.kl - (intOf i).toNat)
  case atStart => exact ⟨0, Nat.zero_le _, rfl, goodTill_zero _ _, B3.out⟩
  case round =>
    obtain ⟨k, hk, rfl, hok, hbel⟩ := hrel
    have t5' : wr.cell? ⟨tb, to + 5, none⟩ = some (.slice x.ka x.kl x.kc) := (hbel.cell (p := ⟨tb, to + 5, none⟩) htb).trans t5
    by_cases hlt : k < x.kl
    · obtain ⟨u, hu⟩ : ∃ u, t.kids[k]? = some u := ⟨t.kids[k]'(by rw [← HL.out]; exact hlt), by simp⟩
      obtain ⟨b, o, y, he, hb, hat, hru⟩ := HR.out.kid hu
      have HU2 := Lib.hid hu
      have HB := Lib.hid hbel
      rw [he] at t5'
      cases hv : T.good u true
      all_goals
        have HG := Lib.hid (good_known (HIH.out u (List.mem_of_getElem? HU2.out)) (hru.below HB.out hB) (hat.keep hb (Keeps.of_below HB.out hB)) (Nat.le_trans hB HB.out.size) hv)
        have HV := Lib.hid hv
        clear hu hat hru he hbel hv
        go_wp2_with (go_at_call 32; refine HG.out.mono ?_; rintro e w2 ⟨rfl, hb2⟩)
        have HB2 := Lib.hid (HB.out.trans (hb2.mono HB.out.size))
        clear hb2 t5'
      · go_ret
        exact GoodPost.mk' (by rw [T.good_eq, HU.out, goodL_false HU2.out HV.out]; simp) HB2.out
      · go_roundw
        case rel => exact ⟨k + 1, by omega, by go_num, goodTill_succ hok.out HU2.out HV.out, HB2.out⟩
        case measure => simp [intOf]; omega
    · obtain rfl : k = x.kl := by omega
      have HB := Lib.hid hbel
      clear hbel
      go_wp2_with fail
      go_ret
      exact GoodPost.mk' (by rw [T.good_eq, HU.out, goodTill_all (by rw [← HL.out]; exact hok.out), HN.out]; rfl) HB.out

set_option maxRecDepth 100000 in
set_option maxHeartbeats 4000000 in
theorem good_way_ff (hr : Rep w B t x) (hat : At w tb to x) (hB : B ≤ w.heap.size) (hih : ∀ u ∈ t.kids, GoodAll u) {c : Int} (hc : T.cls x.kind = c) (h0 : (c == 0) = false) (hf : t.fields = true) (hk : t.kidsOk = true) (hkd : x.kind = 23) (hn : (x.n == 1) = false) :
    Calls Tryz.prog 32 #[.pointer (some ⟨tb, to, none⟩), .bool true] w (GoodPost t true w) := by
  have htb := World.block_lt_of_cell? w _ hat.c0
  have HR := Lib.hid hr
  have HAT := Lib.hid hat
  obtain ⟨t0, t1, t2, t3, t4, t5⟩ := hat
  have HC := Lib.hid (class_known (x := x) hc)
  have HC0 := Lib.hid (show (T.cls t.kind == 0) = false from by rw [← hr.kind, hc]; exact h0)
  have HF := Lib.hid hf
  have HK := Lib.hid hk
  have HIH := Lib.hid hih
  have HX := Lib.hid (show (t.kind == 2) = false ∧ (t.kind == 11) = false from by rw [← hr.kind, hkd]; exact ⟨rfl, rfl⟩)
  have HU := Lib.hid (show T.under t true = false from by rw [T.under, ← hr.kind, hkd, ← hr.n, hn]; rfl)
  have HL := Lib.hid hr.kl
  have hk1 : x.kl ≤ 2199023255552 := hr.wee.l1
  have HN := Lib.hid (show T.node t true = true from (by simp only [T.node, bne, HC0.out, HF.out, HK.out, HX.out.1, HX.out.2, Bool.and_false, Bool.false_and, Bool.not_false, Bool.and_true, Bool.true_and, Bool.or_false]))
  clear hc hf hk hr hih
  rw [hkd] at t0 HC
  clear hkd
  go_enter Tryz.func32, Tryz.ntmps32
  go_wp2_with (first | (go_at_call 33; refine (HC.out _).mono ?_; rintro e w1 ⟨rfl, hb1⟩; have B1 := Lib.hid hb1; obtain ⟨hc1, hf1⟩ := bcell hb1; have hz1 := hb1.size; clear hb1 hf1) | (go_at_call 57; refine (fields_known HF.out HR.out HAT.out hB B1.out htb).mono ?_; rintro e w2 ⟨rfl, hb2⟩; have B2 := Lib.hid (B1.out.trans (hb2.mono B1.out.size)); clear hb2; obtain ⟨hc2, hf2⟩ := bcell B2.out; have hz2 := B2.out.size; clear hf2) | (go_at_call 58; refine (kids_known HK.out HR.out HAT.out hB B2.out htb).mono ?_; rintro e w3 ⟨rfl, hb3⟩; have B3 := Lib.hid (B2.out.trans (hb3.mono B2.out.size)); clear hb3; obtain ⟨hc3, hf3⟩ := bcell B3.out; have hz3 := B3.out.size; clear hf3))
  clear hc1 hc2 hc3
  go_loopw [58] (fun i wr => ∃ k : Nat, k ≤ x.kl ∧ i = .int .i64 k ∧ Hid (goodTill t.kids false k) ∧ Below w.heap.size w wr) (fun i _ => x.kl - (intOf i).toNat)
  case atStart => exact ⟨0, Nat.zero_le _, rfl, goodTill_zero _ _, B3.out⟩
  case round =>
    obtain ⟨k, hk, rfl, hok, hbel⟩ := hrel
    have t5' : wr.cell? ⟨tb, to + 5, none⟩ = some (.slice x.ka x.kl x.kc) := (hbel.cell (p := ⟨tb, to + 5, none⟩) htb).trans t5
    by_cases hlt : k < x.kl
    · obtain ⟨u, hu⟩ : ∃ u, t.kids[k]? = some u := ⟨t.kids[k]'(by rw [← HL.out]; exact hlt), by simp⟩
      obtain ⟨b, o, y, he, hb, hat, hru⟩ := HR.out.kid hu
      have HU2 := Lib.hid hu
      have HB := Lib.hid hbel
      rw [he] at t5'
      cases hv : T.good u false
      all_goals
        have HG := Lib.hid (good_known (HIH.out u (List.mem_of_getElem? HU2.out)) (hru.below HB.out hB) (hat.keep hb (Keeps.of_below HB.out hB)) (Nat.le_trans hB HB.out.size) hv)
        have HV := Lib.hid hv
        clear hu hat hru he hbel hv
        go_wp2_with (go_at_call 32; refine HG.out.mono ?_; rintro e w2 ⟨rfl, hb2⟩)
        have HB2 := Lib.hid (HB.out.trans (hb2.mono HB.out.size))
        clear hb2 t5'
      · go_ret
        exact GoodPost.mk' (by rw [T.good_eq, HU.out, goodL_false HU2.out HV.out]; simp) HB2.out
      · go_roundw
        case rel => exact ⟨k + 1, by omega, by go_num, goodTill_succ hok.out HU2.out HV.out, HB2.out⟩
        case measure => simp [intOf]; omega
    · obtain rfl : k = x.kl := by omega
      have HB := Lib.hid hbel
      clear hbel
      go_wp2_with fail
      go_ret
      exact GoodPost.mk' (by rw [T.good_eq, HU.out, goodTill_all (by rw [← HL.out]; exact hok.out), HN.out]; rfl) HB.out

end
end Go.Proofs.YtboondbognbnnaaGreatDoor

namespace Go.Proofs.YtboondbognbnnaaGreatDoor
open Go.RowKit

theorem beq_true {a b : Int} (h : a = b) : (a == b) = true := by simp [h]
theorem beq_false {a b : Int} (h : ¬ a = b) : (a == b) = false := by simp [h]
theorem good_all (t : T) : GoodAll t := by
  refine T.ind (P := GoodAll) ?_ t
  intro k s n sh a l ih x tb to B al w hr hat hB
  have ih' : ∀ u ∈ (T.mk k s n sh a l).kids, GoodAll u := ih
  generalize T.mk k s n sh a l = t at *
  by_cases hc : T.cls x.kind = 0
  · exact good_class hr hat hB hc
  obtain ⟨c, hcc⟩ : ∃ c, T.cls x.kind = c := ⟨_, rfl⟩
  have h0 : (c == 0) = false := beq_false (by rw [← hcc]; exact hc)
  by_cases hf : t.fields = true
  case neg => exact good_fields hr hat hB hcc h0 (by simpa using hf)
  by_cases hk : t.kidsOk = true
  case neg => exact good_kids hr hat hB hcc h0 hf (by simpa using hk)
  cases al
  · by_cases h23 : x.kind = 23
    · cases hn : (x.n == 1)
      · exact good_way_bf hr hat hB ih' hcc h0 hf hk h23 hn
      · exact good_way_bt hr hat hB ih' hcc h0 hf hk h23 hn
    · exact good_way_a hr hat hB ih' hcc h0 hf hk (beq_false h23)
  · by_cases h2 : x.kind = 2
    · cases hx : (x.text.toList == [120])
      · exact good_way_c hr hat hB ih' hcc h0 hf hk h2 hx
      · exact good_x2 hr hat hB hcc h0 hf hk rfl h2 hx
    by_cases h11 : x.kind = 11
    · cases hx : (x.text.toList == [120])
      · exact good_way_d hr hat hB ih' hcc h0 hf hk h11 hx
      · exact good_x11 hr hat hB hcc h0 hf hk rfl h11 hx
    by_cases h23 : x.kind = 23
    · cases hn : (x.n == 1)
      · exact good_way_ff hr hat hB ih' hcc h0 hf hk h23 hn
      · exact good_way_ft hr hat hB ih' hcc h0 hf hk h23 hn
    · exact good_way_e hr hat hB ih' hcc h0 hf hk (beq_false h2) (beq_false h11) (beq_false h23)

/-- the contract of May -/
def MayPost (t : T) (c : Int) (w : World) (e : Ending) (w' : World) : Prop := e = .returned (.int .i64 (T.may t c)) ∧ Below w.heap.size w w'
theorem MayPost.mk' {t : T} {c r : Int} {w w' : World} (h : r = T.may t c) (hb : Below w.heap.size w w') : MayPost t c w (.returned (.int .i64 r)) w' := ⟨by rw [h], hb⟩

theorem great_known {t : T} {x : TV} {B : Nat} {v : Bool} (hv : v = true ↔ ¬ t.fits) {w W : World} (hr : Rep w B t x) (hB : B ≤ w.heap.size) (hb : Below w.heap.size w W) :
    Calls Tryz.prog 31 #[.agg #[.int .i64 x.kind, .string x.text, .int .i64 x.n, .slice x.sa x.sl x.sc, .slice x.aa x.al x.ac, .slice x.ka x.kl x.kc]] W fun e w' => e = .returned (.bool v) ∧ Below W.heap.size W w' := by
  have h := great_calls t x B W (hr.below hb hB) (Nat.le_trans hB hb.size)
  have e : decide (4096 < (t.sizeN : Int)) = v := by
    rw [Bool.eq_iff_iff, hv, decide_eq_true_eq, T.sizeN]
    split
    · rename_i hf
      have := hf.1
      constructor
      · intro h; omega
      · intro h; exact absurd hf h
    · rename_i hf
      exact ⟨fun _ => hf, fun _ => by omega⟩
  rw [e] at h
  exact h

set_option maxHeartbeats 2000000 in
theorem may_calls (t : T) (x : TV) (B : Nat) (c : Int) (w : World) (hr : Rep w B t x) (hB : B ≤ w.heap.size) :
    Calls Tryz.prog 12 #[x.val, .int .i64 c] w (MayPost t c w) := by
  simp only [TV.val, TV.cells]
  by_cases hc : c ≠ 1 ∧ c ≠ 2 ∧ c ≠ 3
  · have h1 : (c != 1) = true := by simp [hc.1]
    have h2 : (c != 2) = true := by simp [hc.2.1]
    have h3 : (c != 3) = true := by simp [hc.2.2]
    have HM := Lib.hid (show (1 : Int) = T.may t c from by rw [T.may, if_pos hc])
    clear hc
    go_enter Tryz.func12, Tryz.ntmps12
    go_wp2_with fail
    go_ret
    exact MayPost.mk' HM.out (by go_grown)
  have hc' : c = 1 ∨ c = 2 ∨ c = 3 := by omega
  clear hc
  have hb1 : Below w.heap.size w (w.alloc (.cells #[.int .i64 x.kind, .string x.text, .int .i64 x.n, .slice x.sa x.sl x.sc, .slice x.aa x.al x.ac, .slice x.ka x.kl x.kc] 29)) := (Below.refl w.heap.size w).alloc (Nat.le_refl _) _
  have hat := At.boxed w x 29
  simp only [TV.cells] at hat
  have HAT := Lib.hid hat
  have HR := Lib.hid hr
  clear hat
  by_cases hf : t.fits
  case neg =>
    have HM := Lib.hid (show (2 : Int) = T.may t c from by rw [T.may, if_neg (by omega), if_pos hf])
    have HG := Lib.hid (fun W (h : Below w.heap.size w W) => great_known (v := true) (by simp [hf]) HR.out hB h)
    clear hf hr
    rcases hc' with rfl | rfl | rfl
    all_goals
      go_enter Tryz.func12, Tryz.ntmps12
      go_wp2_with (go_at_call 31; refine (HG.out _ hb1).mono ?_; rintro e w1 ⟨rfl, hb2⟩)
      go_ret
      exact MayPost.mk' HM.out (hb1.trans (hb2.mono (by simp)))
  have HG := Lib.hid (fun W (h : Below w.heap.size w W) => great_known (v := false) (by simp [hf]) HR.out hB h)
  have HGA := Lib.hid (good_all t)
  have hx1 := hr.wee.ts
  have HKD := Lib.hid hr.kind
  clear hr
  have HF := Lib.hid hf
  clear hf
  rcases hc' with rfl | rfl | rfl
  all_goals
    go_enter Tryz.func12, Tryz.ntmps12
    go_wp2_with (go_at_call 31; refine (HG.out _ hb1).mono ?_; rintro e w1 ⟨rfl, hb2⟩; have B1 := Lib.hid (hb2); clear hb2; obtain ⟨hc1, hf1⟩ := bcell B1.out; have hz1 := B1.out.size; clear hf1)
    have hz2 : w.heap.size < w1.heap.size := by simp at hz1; omega
    have R1 := Lib.hid (HR.out.below (hb1.trans (B1.out.mono (by simp))) hB)
    have A1 := Lib.hid (HAT.out.keep (B := w.heap.size + 1) (by omega) (Keeps.of_below B1.out (by simp)))
    clear hz1
    cases hv : T.good t false
    · have HM := Lib.hid (fun (c : Int) (h : c = 1 ∨ c = 2 ∨ c = 3) => show (33 : Int) = T.may t c from by rw [T.may, if_neg (by omega), if_neg (by simpa using HF.out), if_pos hv])
      have HG2 := Lib.hid (good_known HGA.out R1.out A1.out (by omega) hv)
      clear hv
      refine HG2.out.mono ?_
      rintro e w2 ⟨rfl, hb2⟩
      have B2 := Lib.hid hb2
      clear hb2 hc1
      go_wp2_with fail
      go_ret
      exact MayPost.mk' (HM.out _ (by decide)) (hb1.trans ((B1.out.trans (B2.out.mono (by simp; omega))).mono (by simp)))
    · have HM := Lib.hid (fun (c : Int) (h : c = 1 ∨ c = 2 ∨ c = 3) => show T.may t c = if T.cls x.kind ≠ c then 5 else 0 from by rw [T.may, if_neg (by omega), if_neg (by simpa using HF.out), if_neg (by rw [hv]; decide), HKD.out])
      have HG2 := Lib.hid (good_known HGA.out R1.out A1.out (by omega) hv)
      clear hv
      refine HG2.out.mono ?_
      rintro e w2 ⟨rfl, hb2⟩
      have B2 := Lib.hid hb2
      obtain ⟨hc2, hf2⟩ := bcell B2.out
      have hz3 := hb2.size
      clear hb2 hf2
      go_wp2_with (go_at_call 33; refine (class_known rfl _).mono ?_; rintro e w3 ⟨rfl, hb3⟩; have B3 := Lib.hid hb3; clear hb3)
      all_goals go_ret
      all_goals refine MayPost.mk' ?_ (hb1.trans ((B1.out.trans ((B2.out.trans (B3.out.mono hz3)).mono (by simp; omega))).mono (by simp)))
      all_goals (rw [HM.out _ (by decide)]; simp_all)
end Go.Proofs.YtboondbognbnnaaGreatDoor
