/- Package term: good: the ways that come to the kids. -/
import Derived.Test.YtnnhbpgpkpbinaaGreatTerm10
namespace Go.Proofs.YtnnhbpgpkpbinaaGreat
open Go.RowKit

section
variable {t : T} {x : TV} {tb to B : Nat} {w : World}

set_option maxRecDepth 100000 in
set_option maxHeartbeats 4000000 in
theorem good_way_a (hr : Rep w B t x) (hat : At w tb to x) (hB : B ≤ w.heap.size) (hih : ∀ u ∈ t.kids, GoodAll u) {c : Int} (hc : T.cls x.kind = c) (h0 : (c == 0) = false) (hf : t.fields = true) (hk : t.kidsOk = true) (k23 : (x.kind == 23) = false) :
    Calls Tryz.prog 33 #[.pointer (some ⟨tb, to, none⟩), .bool false] w (GoodPost t false w) := by
  have htb := World.block_lt_of_cell? w _ hat.c0
  have HR := Lib.hid hr
  have HAT := Lib.hid hat
  obtain ⟨t0, t1, t2, t3, t4, t5⟩ := hat
  have HC := Lib.hid (class_known (x := x) hc)
  have HC0 := Lib.hid (show (T.cls t.kind == 0) = false from by rw [← hr.kind, hc]; exact h0)
  have HF := Lib.hid hf
  have HK := Lib.hid hk
  have HIH := Lib.hid hih
  have HU := Lib.hid (show T.under t false = false from by have := k23; rw [hr.kind] at this; simp only [beq_eq_false_iff_ne] at this; simp [T.under, this])
  have HL := Lib.hid hr.kl
  have hk1 : x.kl ≤ 2199023255552 := hr.wee.l1
  have HN := Lib.hid (show T.node t false = true from (by simp only [T.node, bne, HC0.out, HF.out, HK.out, Bool.and_false, Bool.false_and, Bool.not_false, Bool.and_true, Bool.true_and, Bool.or_false]))
  clear hc hf hk hr hih
  go_enter Tryz.func33, Tryz.ntmps33
  go_wp2_with (first | (go_at_call 34; refine (HC.out _).mono ?_; rintro e w1 ⟨rfl, hb1⟩; have B1 := Lib.hid hb1; obtain ⟨hc1, hf1⟩ := bcell hb1; have hz1 := hb1.size; clear hb1 hf1) | (go_at_call 65; refine (fields_known HF.out HR.out HAT.out hB B1.out htb).mono ?_; rintro e w2 ⟨rfl, hb2⟩; have B2 := Lib.hid (B1.out.trans (hb2.mono B1.out.size)); clear hb2; obtain ⟨hc2, hf2⟩ := bcell B2.out; have hz2 := B2.out.size; clear hf2) | (go_at_call 66; refine (kids_known HK.out HR.out HAT.out hB B2.out htb).mono ?_; rintro e w3 ⟨rfl, hb3⟩; have B3 := Lib.hid (B2.out.trans (hb3.mono B2.out.size)); clear hb3; obtain ⟨hc3, hf3⟩ := bcell B3.out; have hz3 := B3.out.size; clear hf3))
  clear hc1 hc2 hc3
  go_loopw [58] (fun i wr => ∃ k : Nat, k ≤ x.kl ∧ i = .int .i64 k ∧ Hid (goodTill t.kids false k) ∧ Below w.heap.size w wr) (fun i _ => x.kl - (intOf i).toNat)
  case atStart => exact ⟨0, Nat.zero_le _, rfl, goodTill_zero _ _, B3.out⟩
  case round =>
    obtain ⟨k, hk, rfl, hok, hbel⟩ := hrel
    have t5' : wr.cell? ⟨tb, to + 5, none⟩ = some (.slice x.ka x.kl x.kc) := (hbel.cell (p := ⟨tb, to + 5, none⟩) htb).trans t5
    by_cases hlt : k < x.kl
    · obtain ⟨u, hu⟩ : ∃ u, t.kids[k]? = some u := ⟨t.kids[k]'(by rw [← HL.out]; exact hlt), by simp⟩
      obtain ⟨b, o, y, he, hb, hat, hru⟩ := HR.out.kid hu
      have HU2 := Lib.hid hu
      have HB := Lib.hid hbel
      rw [he] at t5'
      cases hv : T.good u false
      all_goals
        have HG := Lib.hid (good_known (HIH.out u (List.mem_of_getElem? HU2.out)) (hru.below HB.out hB) (hat.keep hb (Keeps.of_below HB.out hB)) (Nat.le_trans hB HB.out.size) hv)
        have HV := Lib.hid hv
        clear hu hat hru he hbel hv
        go_wp2_with (go_at_call 33; refine HG.out.mono ?_; rintro e w2 ⟨rfl, hb2⟩)
        have HB2 := Lib.hid (HB.out.trans (hb2.mono HB.out.size))
        clear hb2 t5'
      · go_ret
        exact GoodPost.mk' (by rw [T.good_eq, HU.out, goodL_false HU2.out HV.out]; simp) HB2.out
      · go_roundw
        case rel => exact ⟨k + 1, by omega, by go_num, goodTill_succ hok.out HU2.out HV.out, HB2.out⟩
        case measure => simp [intOf]; omega
    · obtain rfl : k = x.kl := by omega
      have HB := Lib.hid hbel
      clear hbel
      go_wp2_with fail
      go_ret
      exact GoodPost.mk' (by rw [T.good_eq, HU.out, goodTill_all (by rw [← HL.out]; exact hok.out), HN.out]; rfl) HB.out

set_option maxRecDepth 100000 in
set_option maxHeartbeats 4000000 in
theorem good_way_bt (hr : Rep w B t x) (hat : At w tb to x) (hB : B ≤ w.heap.size) (hih : ∀ u ∈ t.kids, GoodAll u) {c : Int} (hc : T.cls x.kind = c) (h0 : (c == 0) = false) (hf : t.fields = true) (hk : t.kidsOk = true) (hkd : x.kind = 23) (hn : (x.n == 1) = true) :
    Calls Tryz.prog 33 #[.pointer (some ⟨tb, to, none⟩), .bool false] w (GoodPost t false w) := by
  have htb := World.block_lt_of_cell? w _ hat.c0
  have HR := Lib.hid hr
  have HAT := Lib.hid hat
  obtain ⟨t0, t1, t2, t3, t4, t5⟩ := hat
  have HC := Lib.hid (class_known (x := x) hc)
  have HC0 := Lib.hid (show (T.cls t.kind == 0) = false from by rw [← hr.kind, hc]; exact h0)
  have HF := Lib.hid hf
  have HK := Lib.hid hk
  have HIH := Lib.hid hih
  have HU := Lib.hid (show T.under t false = true from by rw [T.under, ← hr.kind, hkd, ← hr.n, hn]; rfl)
  have HL := Lib.hid hr.kl
  have hk1 : x.kl ≤ 2199023255552 := hr.wee.l1
  have HN := Lib.hid (show T.node t false = true from (by simp only [T.node, bne, HC0.out, HF.out, HK.out, Bool.and_false, Bool.false_and, Bool.not_false, Bool.and_true, Bool.true_and, Bool.or_false]))
  clear hc hf hk hr hih
  rw [hkd] at t0 HC
  clear hkd
  go_enter Tryz.func33, Tryz.ntmps33
  go_wp2_with (first | (go_at_call 34; refine (HC.out _).mono ?_; rintro e w1 ⟨rfl, hb1⟩; have B1 := Lib.hid hb1; obtain ⟨hc1, hf1⟩ := bcell hb1; have hz1 := hb1.size; clear hb1 hf1) | (go_at_call 65; refine (fields_known HF.out HR.out HAT.out hB B1.out htb).mono ?_; rintro e w2 ⟨rfl, hb2⟩; have B2 := Lib.hid (B1.out.trans (hb2.mono B1.out.size)); clear hb2; obtain ⟨hc2, hf2⟩ := bcell B2.out; have hz2 := B2.out.size; clear hf2) | (go_at_call 66; refine (kids_known HK.out HR.out HAT.out hB B2.out htb).mono ?_; rintro e w3 ⟨rfl, hb3⟩; have B3 := Lib.hid (B2.out.trans (hb3.mono B2.out.size)); clear hb3; obtain ⟨hc3, hf3⟩ := bcell B3.out; have hz3 := B3.out.size; clear hf3))
  clear hc1 hc2 hc3
  go_loopw [58] (fun i wr => ∃ k : Nat, k ≤ x.kl ∧ i = .int .i64 k ∧ Hid (goodTill t.kids true k) ∧ Below w.heap.size w wr) (fun i _ => x.kl - (intOf i).toNat)
  case atStart => exact ⟨0, Nat.zero_le _, rfl, goodTill_zero _ _, B3.out⟩
  case round =>
    obtain ⟨k, hk, rfl, hok, hbel⟩ := hrel
    have t5' : wr.cell? ⟨tb, to + 5, none⟩ = some (.slice x.ka x.kl x.kc) := (hbel.cell (p := ⟨tb, to + 5, none⟩) htb).trans t5
    by_cases hlt : k < x.kl
    · obtain ⟨u, hu⟩ : ∃ u, t.kids[k]? = some u := ⟨t.kids[k]'(by rw [← HL.out]; exact hlt), by simp⟩
      obtain ⟨b, o, y, he, hb, hat, hru⟩ := HR.out.kid hu
      have HU2 := Lib.hid hu
      have HB := Lib.hid hbel
      rw [he] at t5'
      cases hv : T.good u true
      all_goals
        have HG := Lib.hid (good_known (HIH.out u (List.mem_of_getElem? HU2.out)) (hru.below HB.out hB) (hat.keep hb (Keeps.of_below HB.out hB)) (Nat.le_trans hB HB.out.size) hv)
        have HV := Lib.hid hv
        clear hu hat hru he hbel hv
        go_wp2_with (go_at_call 33; refine HG.out.mono ?_; rintro e w2 ⟨rfl, hb2⟩)
        have HB2 := Lib.hid (HB.out.trans (hb2.mono HB.out.size))
        clear hb2 t5'
      · go_ret
        exact GoodPost.mk' (by rw [T.good_eq, HU.out, goodL_false HU2.out HV.out]; simp) HB2.out
      · go_roundw
        case rel => exact ⟨k + 1, by omega, by go_num, goodTill_succ hok.out HU2.out HV.out, HB2.out⟩
        case measure => simp [intOf]; omega
    · obtain rfl : k = x.kl := by omega
      have HB := Lib.hid hbel
      clear hbel
      go_wp2_with fail
      go_ret
      exact GoodPost.mk' (by rw [T.good_eq, HU.out, goodTill_all (by rw [← HL.out]; exact hok.out), HN.out]; rfl) HB.out

set_option maxRecDepth 100000 in
set_option maxHeartbeats 4000000 in
theorem good_way_bf (hr : Rep w B t x) (hat : At w tb to x) (hB : B ≤ w.heap.size) (hih : ∀ u ∈ t.kids, GoodAll u) {c : Int} (hc : T.cls x.kind = c) (h0 : (c == 0) = false) (hf : t.fields = true) (hk : t.kidsOk = true) (hkd : x.kind = 23) (hn : (x.n == 1) = false) :
    Calls Tryz.prog 33 #[.pointer (some ⟨tb, to, none⟩), .bool false] w (GoodPost t false w) := by
  have htb := World.block_lt_of_cell? w _ hat.c0
  have HR := Lib.hid hr
  have HAT := Lib.hid hat
  obtain ⟨t0, t1, t2, t3, t4, t5⟩ := hat
  have HC := Lib.hid (class_known (x := x) hc)
  have HC0 := Lib.hid (show (T.cls t.kind == 0) = false from by rw [← hr.kind, hc]; exact h0)
  have HF := Lib.hid hf
  have HK := Lib.hid hk
  have HIH := Lib.hid hih
  have HU := Lib.hid (show T.under t false = false from by rw [T.under, ← hr.kind, hkd, ← hr.n, hn]; rfl)
  have HL := Lib.hid hr.kl
  have hk1 : x.kl ≤ 2199023255552 := hr.wee.l1
  have HN := Lib.hid (show T.node t false = true from (by simp only [T.node, bne, HC0.out, HF.out, HK.out, Bool.and_false, Bool.false_and, Bool.not_false, Bool.and_true, Bool.true_and, Bool.or_false]))
  clear hc hf hk hr hih
  rw [hkd] at t0 HC
  clear hkd
  go_enter Tryz.func33, Tryz.ntmps33
  go_wp2_with (first | (go_at_call 34; refine (HC.out _).mono ?_; rintro e w1 ⟨rfl, hb1⟩; have B1 := Lib.hid hb1; obtain ⟨hc1, hf1⟩ := bcell hb1; have hz1 := hb1.size; clear hb1 hf1) | (go_at_call 65; refine (fields_known HF.out HR.out HAT.out hB B1.out htb).mono ?_; rintro e w2 ⟨rfl, hb2⟩; have B2 := Lib.hid (B1.out.trans (hb2.mono B1.out.size)); clear hb2; obtain ⟨hc2, hf2⟩ := bcell B2.out; have hz2 := B2.out.size; clear hf2) | (go_at_call 66; refine (kids_known HK.out HR.out HAT.out hB B2.out htb).mono ?_; rintro e w3 ⟨rfl, hb3⟩; have B3 := Lib.hid (B2.out.trans (hb3.mono B2.out.size)); clear hb3; obtain ⟨hc3, hf3⟩ := bcell B3.out; have hz3 := B3.out.size; clear hf3))
  clear hc1 hc2 hc3
  go_loopw [58] (fun i wr => ∃ k : Nat, k ≤ x.kl ∧ i = .int .i64 k ∧ Hid (goodTill t.kids false k) ∧ Below w.heap.size w wr) (fun i _ => x.kl - (intOf i).toNat)
  case atStart => exact ⟨0, Nat.zero_le _, rfl, goodTill_zero _ _, B3.out⟩
  case round =>
    obtain ⟨k, hk, rfl, hok, hbel⟩ := hrel
    have t5' : wr.cell? ⟨tb, to + 5, none⟩ = some (.slice x.ka x.kl x.kc) := (hbel.cell (p := ⟨tb, to + 5, none⟩) htb).trans t5
    by_cases hlt : k < x.kl
    · obtain ⟨u, hu⟩ : ∃ u, t.kids[k]? = some u := ⟨t.kids[k]'(by rw [← HL.out]; exact hlt), by simp⟩
      obtain ⟨b, o, y, he, hb, hat, hru⟩ := HR.out.kid hu
      have HU2 := Lib.hid hu
      have HB := Lib.hid hbel
      rw [he] at t5'
      cases hv : T.good u false
      all_goals
        have HG := Lib.hid (good_known (HIH.out u (List.mem_of_getElem? HU2.out)) (hru.below HB.out hB) (hat.keep hb (Keeps.of_below HB.out hB)) (Nat.le_trans hB HB.out.size) hv)
        have HV := Lib.hid hv
        clear hu hat hru he hbel hv
        go_wp2_with (go_at_call 33; refine HG.out.mono ?_; rintro e w2 ⟨rfl, hb2⟩)
        have HB2 := Lib.hid (HB.out.trans (hb2.mono HB.out.size))
        clear hb2 t5'
      · go_ret
        exact GoodPost.mk' (by rw [T.good_eq, HU.out, goodL_false HU2.out HV.out]; simp) HB2.out
      · go_roundw
        case rel => exact ⟨k + 1, by omega, by go_num, goodTill_succ hok.out HU2.out HV.out, HB2.out⟩
        case measure => simp [intOf]; omega
    · obtain rfl : k = x.kl := by omega
      have HB := Lib.hid hbel
      clear hbel
      go_wp2_with fail
      go_ret
      exact GoodPost.mk' (by rw [T.good_eq, HU.out, goodTill_all (by rw [← HL.out]; exact hok.out), HN.out]; rfl) HB.out

set_option maxRecDepth 100000 in
set_option maxHeartbeats 4000000 in
theorem good_way_c (hr : Rep w B t x) (hat : At w tb to x) (hB : B ≤ w.heap.size) (hih : ∀ u ∈ t.kids, GoodAll u) {c : Int} (hc : T.cls x.kind = c) (h0 : (c == 0) = false) (hf : t.fields = true) (hk : t.kidsOk = true) (hkd : x.kind = 2) (hx : (x.text.toList == [120]) = false) :
    Calls Tryz.prog 33 #[.pointer (some ⟨tb, to, none⟩), .bool true] w (GoodPost t true w) := by
  have htb := World.block_lt_of_cell? w _ hat.c0
  have HR := Lib.hid hr
  have HAT := Lib.hid hat
  obtain ⟨t0, t1, t2, t3, t4, t5⟩ := hat
  have HC := Lib.hid (class_known (x := x) hc)
  have HC0 := Lib.hid (show (T.cls t.kind == 0) = false from by rw [← hr.kind, hc]; exact h0)
  have HF := Lib.hid hf
  have HK := Lib.hid hk
  have HIH := Lib.hid hih
  have HX := Lib.hid (show (t.text.data.toList == [120]) = false from by rw [← hr.text, ← ByteArray.toList_eq]; exact hx)
  have HU := Lib.hid (show T.under t true = true from by rw [T.under, ← hr.kind, hkd]; rfl)
  have HL := Lib.hid hr.kl
  have hk1 : x.kl ≤ 2199023255552 := hr.wee.l1
  have HN := Lib.hid (show T.node t true = true from (by simp only [T.node, bne, HC0.out, HF.out, HK.out, HX.out, Bool.and_false, Bool.false_and, Bool.not_false, Bool.and_true, Bool.true_and, Bool.or_false]))
  clear hc hf hk hr hih
  rw [hkd] at t0 HC
  clear hkd
  go_enter Tryz.func33, Tryz.ntmps33
  go_wp2_with (first | (go_at_call 34; refine (HC.out _).mono ?_; rintro e w1 ⟨rfl, hb1⟩; have B1 := Lib.hid hb1; obtain ⟨hc1, hf1⟩ := bcell hb1; have hz1 := hb1.size; clear hb1 hf1) | (go_at_call 65; refine (fields_known HF.out HR.out HAT.out hB B1.out htb).mono ?_; rintro e w2 ⟨rfl, hb2⟩; have B2 := Lib.hid (B1.out.trans (hb2.mono B1.out.size)); clear hb2; obtain ⟨hc2, hf2⟩ := bcell B2.out; have hz2 := B2.out.size; clear hf2) | (go_at_call 66; refine (kids_known HK.out HR.out HAT.out hB B2.out htb).mono ?_; rintro e w3 ⟨rfl, hb3⟩; have B3 := Lib.hid (B2.out.trans (hb3.mono B2.out.size)); clear hb3; obtain ⟨hc3, hf3⟩ := bcell B3.out; have hz3 := B3.out.size; clear hf3))
  clear hc1 hc2 hc3
  go_loopw [58] (fun i wr => ∃ k : Nat, k ≤ x.kl ∧ i = .int .i64 k ∧ Hid (goodTill t.kids true k) ∧ Below w.heap.size w wr) (fun i _ => x.kl - (intOf i).toNat)
  case atStart => exact ⟨0, Nat.zero_le _, rfl, goodTill_zero _ _, B3.out⟩
  case round =>
    obtain ⟨k, hk, rfl, hok, hbel⟩ := hrel
    have t5' : wr.cell? ⟨tb, to + 5, none⟩ = some (.slice x.ka x.kl x.kc) := (hbel.cell (p := ⟨tb, to + 5, none⟩) htb).trans t5
    by_cases hlt : k < x.kl
    · obtain ⟨u, hu⟩ : ∃ u, t.kids[k]? = some u := ⟨t.kids[k]'(by rw [← HL.out]; exact hlt), by simp⟩
      obtain ⟨b, o, y, he, hb, hat, hru⟩ := HR.out.kid hu
      have HU2 := Lib.hid hu
      have HB := Lib.hid hbel
      rw [he] at t5'
      cases hv : T.good u true
      all_goals
        have HG := Lib.hid (good_known (HIH.out u (List.mem_of_getElem? HU2.out)) (hru.below HB.out hB) (hat.keep hb (Keeps.of_below HB.out hB)) (Nat.le_trans hB HB.out.size) hv)
        have HV := Lib.hid hv
        clear hu hat hru he hbel hv
        go_wp2_with (go_at_call 33; refine HG.out.mono ?_; rintro e w2 ⟨rfl, hb2⟩)
        have HB2 := Lib.hid (HB.out.trans (hb2.mono HB.out.size))
        clear hb2 t5'
      · go_ret
        exact GoodPost.mk' (by rw [T.good_eq, HU.out, goodL_false HU2.out HV.out]; simp) HB2.out
      · go_roundw
        case rel => exact ⟨k + 1, by omega, by go_num, goodTill_succ hok.out HU2.out HV.out, HB2.out⟩
        case measure => simp [intOf]; omega
    · obtain rfl : k = x.kl := by omega
      have HB := Lib.hid hbel
      clear hbel
      go_wp2_with fail
      go_ret
      exact GoodPost.mk' (by rw [T.good_eq, HU.out, goodTill_all (by rw [← HL.out]; exact hok.out), HN.out]; rfl) HB.out

set_option maxRecDepth 100000 in
set_option maxHeartbeats 4000000 in
theorem good_way_d (hr : Rep w B t x) (hat : At w tb to x) (hB : B ≤ w.heap.size) (hih : ∀ u ∈ t.kids, GoodAll u) {c : Int} (hc : T.cls x.kind = c) (h0 : (c == 0) = false) (hf : t.fields = true) (hk : t.kidsOk = true) (hkd : x.kind = 11) (hx : (x.text.toList == [120]) = false) :
    Calls Tryz.prog 33 #[.pointer (some ⟨tb, to, none⟩), .bool true] w (GoodPost t true w) := by
  have htb := World.block_lt_of_cell? w _ hat.c0
  have HR := Lib.hid hr
  have HAT := Lib.hid hat
  obtain ⟨t0, t1, t2, t3, t4, t5⟩ := hat
  have HC := Lib.hid (class_known (x := x) hc)
  have HC0 := Lib.hid (show (T.cls t.kind == 0) = false from by rw [← hr.kind, hc]; exact h0)
  have HF := Lib.hid hf
  have HK := Lib.hid hk
  have HIH := Lib.hid hih
  have HX := Lib.hid (show (t.text.data.toList == [120]) = false from by rw [← hr.text, ← ByteArray.toList_eq]; exact hx)
  have HU := Lib.hid (show T.under t true = true from by rw [T.under, ← hr.kind, hkd]; rfl)
  have HL := Lib.hid hr.kl
  have hk1 : x.kl ≤ 2199023255552 := hr.wee.l1
  have HN := Lib.hid (show T.node t true = true from (by simp only [T.node, bne, HC0.out, HF.out, HK.out, HX.out, Bool.and_false, Bool.false_and, Bool.not_false, Bool.and_true, Bool.true_and, Bool.or_false]))
  clear hc hf hk hr hih
  rw [hkd] at t0 HC
  clear hkd
  go_enter Tryz.func33, Tryz.ntmps33
  go_wp2_with (first | (go_at_call 34; refine (HC.out _).mono ?_; rintro e w1 ⟨rfl, hb1⟩; have B1 := Lib.hid hb1; obtain ⟨hc1, hf1⟩ := bcell hb1; have hz1 := hb1.size; clear hb1 hf1) | (go_at_call 65; refine (fields_known HF.out HR.out HAT.out hB B1.out htb).mono ?_; rintro e w2 ⟨rfl, hb2⟩; have B2 := Lib.hid (B1.out.trans (hb2.mono B1.out.size)); clear hb2; obtain ⟨hc2, hf2⟩ := bcell B2.out; have hz2 := B2.out.size; clear hf2) | (go_at_call 66; refine (kids_known HK.out HR.out HAT.out hB B2.out htb).mono ?_; rintro e w3 ⟨rfl, hb3⟩; have B3 := Lib.hid (B2.out.trans (hb3.mono B2.out.size)); clear hb3; obtain ⟨hc3, hf3⟩ := bcell B3.out; have hz3 := B3.out.size; clear hf3))
  clear hc1 hc2 hc3
  go_loopw [58] (fun i wr => ∃ k : Nat, k ≤ x.kl ∧ i = .int .i64 k ∧ Hid (goodTill t.kids true k) ∧ Below w.heap.size w wr) (fun i _ => x.kl - (intOf i).toNat)
  case atStart => exact ⟨0, Nat.zero_le _, rfl, goodTill_zero _ _, B3.out⟩
  case round =>
    obtain ⟨k, hk, rfl, hok, hbel⟩ := hrel
    have t5' : wr.cell? ⟨tb, to + 5, none⟩ = some (.slice x.ka x.kl x.kc) := (hbel.cell (p := ⟨tb, to + 5, none⟩) htb).trans t5
    by_cases hlt : k < x.kl
    · obtain ⟨u, hu⟩ : ∃ u, t.kids[k]? = some u := ⟨t.kids[k]'(by rw [← HL.out]; exact hlt), by simp⟩
      obtain ⟨b, o, y, he, hb, hat, hru⟩ := HR.out.kid hu
      have HU2 := Lib.hid hu
      have HB := Lib.hid hbel
      rw [he] at t5'
      cases hv : T.good u true
      all_goals
        have HG := Lib.hid (good_known (HIH.out u (List.mem_of_getElem? HU2.out)) (hru.below HB.out hB) (hat.keep hb (Keeps.of_below HB.out hB)) (Nat.le_trans hB HB.out.size) hv)
        have HV := Lib.hid hv
        clear hu hat hru he hbel hv
        go_wp2_with (go_at_call 33; refine HG.out.mono ?_; rintro e w2 ⟨rfl, hb2⟩)
        have HB2 := Lib.hid (HB.out.trans (hb2.mono HB.out.size))
        clear hb2 t5'
      · go_ret
        exact GoodPost.mk' (by rw [T.good_eq, HU.out, goodL_false HU2.out HV.out]; simp) HB2.out
      · go_roundw
        case rel => exact ⟨k + 1, by omega, by go_num, goodTill_succ hok.out HU2.out HV.out, HB2.out⟩
        case measure => simp [intOf]; omega
    · obtain rfl : k = x.kl := by omega
      have HB := Lib.hid hbel
      clear hbel
      go_wp2_with fail
      go_ret
      exact GoodPost.mk' (by rw [T.good_eq, HU.out, goodTill_all (by rw [← HL.out]; exact hok.out), HN.out]; rfl) HB.out

set_option maxRecDepth 100000 in
set_option maxHeartbeats 4000000 in
theorem good_way_e (hr : Rep w B t x) (hat : At w tb to x) (hB : B ≤ w.heap.size) (hih : ∀ u ∈ t.kids, GoodAll u) {c : Int} (hc : T.cls x.kind = c) (h0 : (c == 0) = false) (hf : t.fields = true) (hk : t.kidsOk = true) (k2 : (x.kind == 2) = false) (k11 : (x.kind == 11) = false) (k23 : (x.kind == 23) = false) :
    Calls Tryz.prog 33 #[.pointer (some ⟨tb, to, none⟩), .bool true] w (GoodPost t true w) := by
  have htb := World.block_lt_of_cell? w _ hat.c0
  have HR := Lib.hid hr
  have HAT := Lib.hid hat
  obtain ⟨t0, t1, t2, t3, t4, t5⟩ := hat
  have HC := Lib.hid (class_known (x := x) hc)
  have HC0 := Lib.hid (show (T.cls t.kind == 0) = false from by rw [← hr.kind, hc]; exact h0)
  have HF := Lib.hid hf
  have HK := Lib.hid hk
  have HIH := Lib.hid hih
  have HX := Lib.hid (show (t.kind == 2) = false ∧ (t.kind == 11) = false from by rw [← hr.kind]; exact ⟨k2, k11⟩)
  have HU := Lib.hid (show T.under t true = true from by have := k23; rw [hr.kind] at this; simp only [beq_eq_false_iff_ne] at this; simp [T.under, this])
  have HL := Lib.hid hr.kl
  have hk1 : x.kl ≤ 2199023255552 := hr.wee.l1
  have HN := Lib.hid (show T.node t true = true from (by simp only [T.node, bne, HC0.out, HF.out, HK.out, HX.out.1, HX.out.2, Bool.and_false, Bool.false_and, Bool.not_false, Bool.and_true, Bool.true_and, Bool.or_false]))
  clear hc hf hk hr hih
  go_enter Tryz.func33, Tryz.ntmps33
  go_wp2_with (first | (go_at_call 34; refine (HC.out _).mono ?_; rintro e w1 ⟨rfl, hb1⟩; have B1 := Lib.hid hb1; obtain ⟨hc1, hf1⟩ := bcell hb1; have hz1 := hb1.size; clear hb1 hf1) | (go_at_call 65; refine (fields_known HF.out HR.out HAT.out hB B1.out htb).mono ?_; rintro e w2 ⟨rfl, hb2⟩; have B2 := Lib.hid (B1.out.trans (hb2.mono B1.out.size)); clear hb2; obtain ⟨hc2, hf2⟩ := bcell B2.out; have hz2 := B2.out.size; clear hf2) | (go_at_call 66; refine (kids_known HK.out HR.out HAT.out hB B2.out htb).mono ?_; rintro e w3 ⟨rfl, hb3⟩; have B3 := Lib.hid (B2.out.trans (hb3.mono B2.out.size)); clear hb3; obtain ⟨hc3, hf3⟩ := bcell B3.out; have hz3 := B3.out.size; clear hf3))
  clear hc1 hc2 hc3
  go_loopw [58] (fun i wr => ∃ k : Nat, k ≤ x.kl ∧ i = .int .i64 k ∧ Hid (goodTill t.kids true k) ∧ Below w.heap.size w wr) (fun i _ => x.kl - (intOf i).toNat)
  case atStart => exact ⟨0, Nat.zero_le _, rfl, goodTill_zero _ _, B3.out⟩
  case round =>
    obtain ⟨k, hk, rfl, hok, hbel⟩ := hrel
    have t5' : wr.cell? ⟨tb, to + 5, none⟩ = some (.slice x.ka x.kl x.kc) := (hbel.cell (p := ⟨tb, to + 5, none⟩) htb).trans t5
    by_cases hlt : k < x.kl
    · obtain ⟨u, hu⟩ : ∃ u, t.kids[k]? = some u := ⟨t.kids[k]'(by rw [← HL.out]; exact hlt), by simp⟩
      obtain ⟨b, o, y, he, hb, hat, hru⟩ := HR.out.kid hu
      have HU2 := Lib.hid hu
      have HB := Lib.hid hbel
      rw [he] at t5'
      cases hv : T.good u true
      all_goals
        have HG := Lib.hid (good_known (HIH.out u (List.mem_of_getElem? HU2.out)) (hru.below HB.out hB) (hat.keep hb (Keeps.of_below HB.out hB)) (Nat.le_trans hB HB.out.size) hv)
        have HV := Lib.hid hv
        clear hu hat hru he hbel hv
        go_wp2_with (go_at_call 33; refine HG.out.mono ?_; rintro e w2 ⟨rfl, hb2⟩)
        have HB2 := Lib.hid (HB.out.trans (hb2.mono HB.out.size))
        clear hb2 t5'
      · go_ret
        exact GoodPost.mk' (by rw [T.good_eq, HU.out, goodL_false HU2.out HV.out]; simp) HB2.out
      · go_roundw
        case rel => exact ⟨k + 1, by omega, by go_num, goodTill_succ hok.out HU2.out HV.out, HB2.out⟩
        case measure => simp [intOf]; omega
    · obtain rfl : k = x.kl := by omega
      have HB := Lib.hid hbel
      clear hbel
      go_wp2_with fail
      go_ret
      exact GoodPost.mk' (by rw [T.good_eq, HU.out, goodTill_all (by rw [← HL.out]; exact hok.out), HN.out]; rfl) HB.out

set_option maxRecDepth 100000 in
set_option maxHeartbeats 4000000 in
theorem good_way_ft (hr : Rep w B t x) (hat : At w tb to x) (hB : B ≤ w.heap.size) (hih : ∀ u ∈ t.kids, GoodAll u) {c : Int} (hc : T.cls x.kind = c) (h0 : (c == 0) = false) (hf : t.fields = true) (hk : t.kidsOk = true) (hkd : x.kind = 23) (hn : (x.n == 1) = true) :
    Calls Tryz.prog 33 #[.pointer (some ⟨tb, to, none⟩), .bool true] w (GoodPost t true w) := by
  have htb := World.block_lt_of_cell? w _ hat.c0
  have HR := Lib.hid hr
  have HAT := Lib.hid hat
  obtain ⟨t0, t1, t2, t3, t4, t5⟩ := hat
  have HC := Lib.hid (class_known (x := x) hc)
  have HC0 := Lib.hid (show (T.cls t.kind == 0) = false from by rw [← hr.kind, hc]; exact h0)
  have HF := Lib.hid hf
  have HK := Lib.hid hk
  have HIH := Lib.hid hih
  have HX := Lib.hid (show (t.kind == 2) = false ∧ (t.kind == 11) = false from by rw [← hr.kind, hkd]; exact ⟨rfl, rfl⟩)
  have HU := Lib.hid (show T.under t true = true from by rw [T.under, ← hr.kind, hkd, ← hr.n, hn]; rfl)
  have HL := Lib.hid hr.kl
  have hk1 : x.kl ≤ 2199023255552 := hr.wee.l1
  have HN := Lib.hid (show T.node t true = true from (by simp only [T.node, bne, HC0.out, HF.out, HK.out, HX.out.1, HX.out.2, Bool.and_false, Bool.false_and, Bool.not_false, Bool.and_true, Bool.true_and, Bool.or_false]))
  clear hc hf hk hr hih
  rw [hkd] at t0 HC
  clear hkd
  go_enter Tryz.func33, Tryz.ntmps33
  go_wp2_with (first | (go_at_call 34; refine (HC.out _).mono ?_; rintro e w1 ⟨rfl, hb1⟩; have B1 := Lib.hid hb1; obtain ⟨hc1, hf1⟩ := bcell hb1; have hz1 := hb1.size; clear hb1 hf1) | (go_at_call 65; refine (fields_known HF.out HR.out HAT.out hB B1.out htb).mono ?_; rintro e w2 ⟨rfl, hb2⟩; have B2 := Lib.hid (B1.out.trans (hb2.mono B1.out.size)); clear hb2; obtain ⟨hc2, hf2⟩ := bcell B2.out; have hz2 := B2.out.size; clear hf2) | (go_at_call 66; refine (kids_known HK.out HR.out HAT.out hB B2.out htb).mono ?_; rintro e w3 ⟨rfl, hb3⟩; have B3 := Lib.hid (B2.out.trans (hb3.mono B2.out.size)); clear hb3; obtain ⟨hc3, hf3⟩ := bcell B3.out; have hz3 := B3.out.size; clear hf3))
  clear hc1 hc2 hc3
  go_loopw [58] (fun i wr => ∃ k : Nat, k ≤ x.kl ∧ i = .int .i64 k ∧ Hid (goodTill t.kids true k) ∧ Below w.heap.size w wr) (fun i _ => x.kl - (intOf i).toNat)
  case atStart => exact ⟨0, Nat.zero_le _, rfl, goodTill_zero _ _, B3.out⟩
  case round =>
    obtain ⟨k, hk, rfl, hok, hbel⟩ := hrel
    have t5' : wr.cell? ⟨tb, to + 5, none⟩ = some (.slice x.ka x.kl x.kc) := (hbel.cell (p := ⟨tb, to + 5, none⟩) htb).trans t5
    by_cases hlt : k < x.kl
    · obtain ⟨u, hu⟩ : ∃ u, t.kids[k]? = some u := ⟨t.kids[k]'(by rw [← HL.out]; exact hlt), by simp⟩
      obtain ⟨b, o, y, he, hb, hat, hru⟩ := HR.out.kid hu
      have HU2 := Lib.hid hu
      have HB := Lib.hid hbel
      rw [he] at t5'
      cases hv : T.good u true
      all_goals
        have HG := Lib.hid (good_known (HIH.out u (List.mem_of_getElem? HU2.out)) (hru.below HB.out hB) (hat.keep hb (Keeps.of_below HB.out hB)) (Nat.le_trans hB HB.out.size) hv)
        have HV := Lib.hid hv
        clear hu hat hru he hbel hv
        go_wp2_with (go_at_call 33; refine HG.out.mono ?_; rintro e w2 ⟨rfl, hb2⟩)
        have HB2 := Lib.hid (HB.out.trans (hb2.mono HB.out.size))
        clear hb2 t5'
      · go_ret
        exact GoodPost.mk' (by rw [T.good_eq, HU.out, goodL_false HU2.out HV.out]; simp) HB2.out
      · go_roundw
        case rel => exact ⟨k + 1, by omega, by go_num, goodTill_succ hok.out HU2.out HV.out, HB2.out⟩
        case measure => simp [intOf]; omega
    · obtain rfl : k = x.kl := by omega
      have HB := Lib.hid hbel
      clear hbel
      go_wp2_with fail
      go_ret
      exact GoodPost.mk' (by rw [T.good_eq, HU.out, goodTill_all (by rw [← HL.out]; exact hok.out), HN.out]; rfl) HB.out

set_option maxRecDepth 100000 in
set_option maxHeartbeats 4000000 in
theorem good_way_ff (hr : Rep w B t x) (hat : At w tb to x) (hB : B ≤ w.heap.size) (hih : ∀ u ∈ t.kids, GoodAll u) {c : Int} (hc : T.cls x.kind = c) (h0 : (c == 0) = false) (hf : t.fields = true) (hk : t.kidsOk = true) (hkd : x.kind = 23) (hn : (x.n == 1) = false) :
    Calls Tryz.prog 33 #[.pointer (some ⟨tb, to, none⟩), .bool true] w (GoodPost t true w) := by
  have htb := World.block_lt_of_cell? w _ hat.c0
  have HR := Lib.hid hr
  have HAT := Lib.hid hat
  obtain ⟨t0, t1, t2, t3, t4, t5⟩ := hat
  have HC := Lib.hid (class_known (x := x) hc)
  have HC0 := Lib.hid (show (T.cls t.kind == 0) = false from by rw [← hr.kind, hc]; exact h0)
  have HF := Lib.hid hf
  have HK := Lib.hid hk
  have HIH := Lib.hid hih
  have HX := Lib.hid (show (t.kind == 2) = false ∧ (t.kind == 11) = false from by rw [← hr.kind, hkd]; exact ⟨rfl, rfl⟩)
  have HU := Lib.hid (show T.under t true = false from by rw [T.under, ← hr.kind, hkd, ← hr.n, hn]; rfl)
  have HL := Lib.hid hr.kl
  have hk1 : x.kl ≤ 2199023255552 := hr.wee.l1
  have HN := Lib.hid (show T.node t true = true from (by simp only [T.node, bne, HC0.out, HF.out, HK.out, HX.out.1, HX.out.2, Bool.and_false, Bool.false_and, Bool.not_false, Bool.and_true, Bool.true_and, Bool.or_false]))
  clear hc hf hk hr hih
  rw [hkd] at t0 HC
  clear hkd
  go_enter Tryz.func33, Tryz.ntmps33
  go_wp2_with (first | (go_at_call 34; refine (HC.out _).mono ?_; rintro e w1 ⟨rfl, hb1⟩; have B1 := Lib.hid hb1; obtain ⟨hc1, hf1⟩ := bcell hb1; have hz1 := hb1.size; clear hb1 hf1) | (go_at_call 65; refine (fields_known HF.out HR.out HAT.out hB B1.out htb).mono ?_; rintro e w2 ⟨rfl, hb2⟩; have B2 := Lib.hid (B1.out.trans (hb2.mono B1.out.size)); clear hb2; obtain ⟨hc2, hf2⟩ := bcell B2.out; have hz2 := B2.out.size; clear hf2) | (go_at_call 66; refine (kids_known HK.out HR.out HAT.out hB B2.out htb).mono ?_; rintro e w3 ⟨rfl, hb3⟩; have B3 := Lib.hid (B2.out.trans (hb3.mono B2.out.size)); clear hb3; obtain ⟨hc3, hf3⟩ := bcell B3.out; have hz3 := B3.out.size; clear hf3))
  clear hc1 hc2 hc3
  go_loopw [58] (fun i wr => ∃ k : Nat, k ≤ x.kl ∧ i = .int .i64 k ∧ Hid (goodTill t.kids false k) ∧ Below w.heap.size w wr) (fun i _ => x.kl - (intOf i).toNat)
  case atStart => exact ⟨0, Nat.zero_le _, rfl, goodTill_zero _ _, B3.out⟩
  case round =>
    obtain ⟨k, hk, rfl, hok, hbel⟩ := hrel
    have t5' : wr.cell? ⟨tb, to + 5, none⟩ = some (.slice x.ka x.kl x.kc) := (hbel.cell (p := ⟨tb, to + 5, none⟩) htb).trans t5
    by_cases hlt : k < x.kl
    · obtain ⟨u, hu⟩ : ∃ u, t.kids[k]? = some u := ⟨t.kids[k]'(by rw [← HL.out]; exact hlt), by simp⟩
      obtain ⟨b, o, y, he, hb, hat, hru⟩ := HR.out.kid hu
      have HU2 := Lib.hid hu
      have HB := Lib.hid hbel
      rw [he] at t5'
      cases hv : T.good u false
      all_goals
        have HG := Lib.hid (good_known (HIH.out u (List.mem_of_getElem? HU2.out)) (hru.below HB.out hB) (hat.keep hb (Keeps.of_below HB.out hB)) (Nat.le_trans hB HB.out.size) hv)
        have HV := Lib.hid hv
        clear hu hat hru he hbel hv
        go_wp2_with (go_at_call 33; refine HG.out.mono ?_; rintro e w2 ⟨rfl, hb2⟩)
        have HB2 := Lib.hid (HB.out.trans (hb2.mono HB.out.size))
        clear hb2 t5'
      · go_ret
        exact GoodPost.mk' (by rw [T.good_eq, HU.out, goodL_false HU2.out HV.out]; simp) HB2.out
      · go_roundw
        case rel => exact ⟨k + 1, by omega, by go_num, goodTill_succ hok.out HU2.out HV.out, HB2.out⟩
        case measure => simp [intOf]; omega
    · obtain rfl : k = x.kl := by omega
      have HB := Lib.hid hbel
      clear hbel
      go_wp2_with fail
      go_ret
      exact GoodPost.mk' (by rw [T.good_eq, HU.out, goodTill_all (by rw [← HL.out]; exact hok.out), HN.out]; rfl) HB.out

end
end Go.Proofs.YtnnhbpgpkpbinaaGreat
