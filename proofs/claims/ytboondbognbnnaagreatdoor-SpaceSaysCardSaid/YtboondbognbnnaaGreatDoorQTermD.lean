/- Package term: fields. Package term: kids. Package term: kids, the other ways. Package term: good, May. -/
import Derived.Test.YtboondbognbnnaaGreatDoorQPrimB
import Derived.BigGuardPart
import Derived.StillTailTactics
import Derived.Test.YtboondbognbnnaaGreatDoorQPureA
set_option linter.unusedVariables false
set_option linter.unusedSimpArgs false
namespace Go.Proofs.YtboondbognbnnaaGreatDoor
open Go.RowKit

theorem named_calls (s : ByteArray) (lo hi : Int) (w : World) (hs : s.size ≤ 140737488355328) : Calls Tryz.prog 89 #[.string s, .int .u8 lo, .int .u8 hi] w fun e w' => e = .returned (.bool (T.named s.data.toList lo hi)) ∧ w = w' := by
  by_cases h : 0 < s.size ∧ s.size ≤ 32
  · exact named_yes s lo hi w h.1 h.2
  · have hl : s.data.toList.length = s.size := Array.length_toList
    have : T.named s.data.toList lo hi = false := by
      generalize s.data.toList = L at *
      cases L with
      | nil => rfl
      | cons c r => simp only [T.named, Bool.and_eq_false_iff, decide_eq_false_iff_not]; simp only [List.length_cons] at hl ⊢; omega
    rw [this]
    exact named_no s lo hi w hs (by omega)

/-- what is asked of a text, a number, a Num, by the kind -/
def T.textB (k : Int) (s : List UInt8) : Bool := if k = 2 ∨ k = 11 then T.named s 97 122 else if k = 20 then T.isPrim s else if k = 21 then T.named s 65 90 else s.isEmpty
def T.nB (k n : Int) : Bool := if k = 23 then n == 1 || n == 2 else n == 0
def T.numB (k : Int) (sh at_ : List Int) : Bool := if k = 1 then T.literal sh at_ else if k = 42 then T.ranks sh at_ else sh.isEmpty && at_.isEmpty
theorem T.fields_eq (t : T) : t.fields = (T.textB t.kind t.text.data.toList && T.nB t.kind t.n && T.numB t.kind t.shape t.atoms) := rfl
theorem T.textB_else {k : Int} {s : ByteArray} (h2 : k ≠ 2) (h11 : k ≠ 11) (h20 : k ≠ 20) (h21 : k ≠ 21) : T.textB k s.data.toList = s.toList.isEmpty := by
  simp [T.textB, h2, h11, h20, h21, ByteArray.toList_eq]
theorem isEmpty_len {l : List Int} {k : Nat} (h : l.length = k) : l.isEmpty = ((k : Int) == 0) := by
  subst h; cases l
  · rfl
  · rw [Bool.eq_iff_iff]; simp; omega
theorem numB_else {k : Int} {sh at_ : List Int} {sl al : Nat} (h1 : k ≠ 1) (h42 : k ≠ 42) (hs : sh.length = sl) (ha : at_.length = al) : T.numB k sh at_ = (((sl : Int) == 0) && ((al : Int) == 0)) := by
  simp only [T.numB, h1, h42, if_false, isEmpty_len hs, isEmpty_len ha]
/-- the contract -/
def FieldsPost (t : T) (w : World) (e : Ending) (w' : World) : Prop := e = .returned (.bool t.fields) ∧ Below w.heap.size w w'
theorem FieldsPost.mk' {t : T} {w w' : World} {b : Bool} (h : b = t.fields) (hb : Below w.heap.size w w') : FieldsPost t w (.returned (.bool b)) w' := ⟨by rw [h], hb⟩
theorem keeps_drewN (B : Nat) (w : World) (n : Nat) : Keeps B w (w.drewN n) := fun _ _ _ => rfl
theorem drew_same {w : World} {B : Nat} (n : Nat) : Below B w (w.drewN n) := below_drewN (Below.refl _ _) n

set_option maxHeartbeats 4000000 in
theorem fields_num (t : T) (x : TV) (tb to B : Nat) (w : World) (hr : Rep w B t x) (hat : At w tb to x) (hB : B ≤ w.heap.size) (hk : x.kind = 1) :
    Calls Tryz.prog 57 #[.pointer (some ⟨tb, to, none⟩)] w (FieldsPost t w) := by
  obtain ⟨t0, t1, t2, t3, t4, t5⟩ := hat
  clear t5
  have hwee := hr.wee
  have hts : x.text.size ≤ maxLen := by have := hwee.ts; unfold maxLen; omega
  have hsl : x.sl ≤ 17592186044416 := hwee.s1
  have hal : x.al ≤ 17592186044416 := hwee.a1
  have hfe : t.fields = (T.textB 1 x.text.data.toList && T.nB 1 x.n && T.numB 1 t.shape t.atoms) := by
    rw [T.fields_eq, ← hr.kind, ← hr.text, ← hr.n, hk]
  rw [show T.textB 1 x.text.data.toList = x.text.toList.isEmpty from T.textB_else (by decide) (by decide) (by decide) (by decide)] at hfe
  have HF := Lib.hid hfe
  have HS := Lib.hid hr.shape
  have HA := Lib.hid hr.atoms
  clear hfe hr
  have HK := Lib.hid hk
  rw [hk] at t0
  clear hk
  by_cases hs0 : x.sl = 0
  · have hd' : ((x.sl : Int) == 0) = true := by simp [hs0]
    clear hs0
    go_enter Tryz.func57, Tryz.ntmps57
    go_wp2_with fail
    go_quiet (fail)
    go_wp2_with (first | (go_at_call 88; refine (literal_calls _ _ _ _ _ _ B t.shape t.atoms _ (HS.out.keep (keeps_drewN _ _ _)) (HA.out.keep (keeps_drewN _ _ _)) (by simpa using hB) hsl hal).mono ?_; rintro e w1 ⟨rfl, hb⟩))
    all_goals go_ret
    all_goals refine FieldsPost.mk' ?_ (by first | exact drew_same _ | exact (drew_same _).trans (by simpa using hb))
    all_goals (rw [HF.out]; simp_all [T.textB, T.nB, T.numB])
  · have hd' : ((x.sl : Int) == 0) = false := by simp [hs0]
    clear hs0
    go_enter Tryz.func57, Tryz.ntmps57
    go_wp2_with fail
    go_quiet (fail)
    go_wp2_with (first | (go_at_call 88; refine (literal_calls _ _ _ _ _ _ B t.shape t.atoms _ (HS.out.keep (keeps_drewN _ _ _)) (HA.out.keep (keeps_drewN _ _ _)) (by simpa using hB) hsl hal).mono ?_; rintro e w1 ⟨rfl, hb⟩))
    all_goals go_ret
    all_goals refine FieldsPost.mk' ?_ (by first | exact drew_same _ | exact (drew_same _).trans (by simpa using hb))
    all_goals (rw [HF.out]; simp_all [T.textB, T.nB, T.numB])

set_option maxHeartbeats 4000000 in
theorem fields_name (t : T) (x : TV) (tb to B : Nat) (w : World) (hr : Rep w B t x) (hat : At w tb to x) (hB : B ≤ w.heap.size) (hk : x.kind = 2) :
    Calls Tryz.prog 57 #[.pointer (some ⟨tb, to, none⟩)] w (FieldsPost t w) := by
  obtain ⟨t0, t1, t2, t3, t4, t5⟩ := hat
  clear t5
  have hwee := hr.wee
  have hts : x.text.size ≤ maxLen := by have := hwee.ts; unfold maxLen; omega
  have hsl : x.sl ≤ 17592186044416 := hwee.s1
  have hal : x.al ≤ 17592186044416 := hwee.a1
  have hfe : t.fields = (T.textB 2 x.text.data.toList && T.nB 2 x.n && T.numB 2 t.shape t.atoms) := by
    rw [T.fields_eq, ← hr.kind, ← hr.text, ← hr.n, hk]
  rw [show T.numB 2 t.shape t.atoms = _ from numB_else (by decide) (by decide) hr.shape.1 hr.atoms.1] at hfe
  have HF := Lib.hid hfe
  have HS := Lib.hid hr.shape
  have HA := Lib.hid hr.atoms
  clear hfe hr
  have HK := Lib.hid hk
  rw [hk] at t0
  clear hk
  by_cases hs0 : x.sl = 0
  · have hd' : ((x.sl : Int) == 0) = true := by simp [hs0]
    clear hs0
    go_enter Tryz.func57, Tryz.ntmps57
    go_wp2_with fail
    go_quiet (fail)
    go_wp2_with (first | (go_at_call 89; refine (named_calls _ _ _ _ hwee.ts).mono ?_; rintro e w1 ⟨rfl, rfl⟩))
    all_goals go_ret
    all_goals refine FieldsPost.mk' ?_ (by first | exact drew_same _ | exact (drew_same _).trans (by simpa using hb))
    all_goals (rw [HF.out]; simp_all [T.textB, T.nB, T.numB])
  · have hd' : ((x.sl : Int) == 0) = false := by simp [hs0]
    clear hs0
    go_enter Tryz.func57, Tryz.ntmps57
    go_wp2_with fail
    go_quiet (fail)
    go_wp2_with (first | (go_at_call 89; refine (named_calls _ _ _ _ hwee.ts).mono ?_; rintro e w1 ⟨rfl, rfl⟩))
    all_goals go_ret
    all_goals refine FieldsPost.mk' ?_ (by first | exact drew_same _ | exact (drew_same _).trans (by simpa using hb))
    all_goals (rw [HF.out]; simp_all [T.textB, T.nB, T.numB])

set_option maxHeartbeats 4000000 in
theorem fields_set (t : T) (x : TV) (tb to B : Nat) (w : World) (hr : Rep w B t x) (hat : At w tb to x) (hB : B ≤ w.heap.size) (hk : x.kind = 11) :
    Calls Tryz.prog 57 #[.pointer (some ⟨tb, to, none⟩)] w (FieldsPost t w) := by
  obtain ⟨t0, t1, t2, t3, t4, t5⟩ := hat
  clear t5
  have hwee := hr.wee
  have hts : x.text.size ≤ maxLen := by have := hwee.ts; unfold maxLen; omega
  have hsl : x.sl ≤ 17592186044416 := hwee.s1
  have hal : x.al ≤ 17592186044416 := hwee.a1
  have hfe : t.fields = (T.textB 11 x.text.data.toList && T.nB 11 x.n && T.numB 11 t.shape t.atoms) := by
    rw [T.fields_eq, ← hr.kind, ← hr.text, ← hr.n, hk]
  rw [show T.numB 11 t.shape t.atoms = _ from numB_else (by decide) (by decide) hr.shape.1 hr.atoms.1] at hfe
  have HF := Lib.hid hfe
  have HS := Lib.hid hr.shape
  have HA := Lib.hid hr.atoms
  clear hfe hr
  have HK := Lib.hid hk
  rw [hk] at t0
  clear hk
  by_cases hs0 : x.sl = 0
  · have hd' : ((x.sl : Int) == 0) = true := by simp [hs0]
    clear hs0
    go_enter Tryz.func57, Tryz.ntmps57
    go_wp2_with fail
    go_quiet (fail)
    go_wp2_with (first | (go_at_call 89; refine (named_calls _ _ _ _ hwee.ts).mono ?_; rintro e w1 ⟨rfl, rfl⟩))
    all_goals go_ret
    all_goals refine FieldsPost.mk' ?_ (by first | exact drew_same _ | exact (drew_same _).trans (by simpa using hb))
    all_goals (rw [HF.out]; simp_all [T.textB, T.nB, T.numB])
  · have hd' : ((x.sl : Int) == 0) = false := by simp [hs0]
    clear hs0
    go_enter Tryz.func57, Tryz.ntmps57
    go_wp2_with fail
    go_quiet (fail)
    go_wp2_with (first | (go_at_call 89; refine (named_calls _ _ _ _ hwee.ts).mono ?_; rintro e w1 ⟨rfl, rfl⟩))
    all_goals go_ret
    all_goals refine FieldsPost.mk' ?_ (by first | exact drew_same _ | exact (drew_same _).trans (by simpa using hb))
    all_goals (rw [HF.out]; simp_all [T.textB, T.nB, T.numB])

set_option maxHeartbeats 4000000 in
theorem fields_prim (t : T) (x : TV) (tb to B : Nat) (w : World) (hr : Rep w B t x) (hat : At w tb to x) (hB : B ≤ w.heap.size) (hk : x.kind = 20) :
    Calls Tryz.prog 57 #[.pointer (some ⟨tb, to, none⟩)] w (FieldsPost t w) := by
  obtain ⟨t0, t1, t2, t3, t4, t5⟩ := hat
  clear t5
  have hwee := hr.wee
  have hts : x.text.size ≤ maxLen := by have := hwee.ts; unfold maxLen; omega
  have hsl : x.sl ≤ 17592186044416 := hwee.s1
  have hal : x.al ≤ 17592186044416 := hwee.a1
  have hfe : t.fields = (T.textB 20 x.text.data.toList && T.nB 20 x.n && T.numB 20 t.shape t.atoms) := by
    rw [T.fields_eq, ← hr.kind, ← hr.text, ← hr.n, hk]
  rw [show T.numB 20 t.shape t.atoms = _ from numB_else (by decide) (by decide) hr.shape.1 hr.atoms.1] at hfe
  have HF := Lib.hid hfe
  have HS := Lib.hid hr.shape
  have HA := Lib.hid hr.atoms
  clear hfe hr
  have HK := Lib.hid hk
  rw [hk] at t0
  clear hk
  by_cases hs0 : x.sl = 0
  · have hd' : ((x.sl : Int) == 0) = true := by simp [hs0]
    clear hs0
    go_enter Tryz.func57, Tryz.ntmps57
    go_wp2_with fail
    go_quiet (fail)
    go_wp2_with (first | (go_at_call 90; refine (prim_calls _ _ hts).mono ?_; rintro e w1 ⟨rfl, hb⟩))
    all_goals go_ret
    all_goals refine FieldsPost.mk' ?_ (by first | exact drew_same _ | exact (drew_same _).trans (by simpa using hb))
    all_goals (rw [HF.out]; simp_all [T.textB, T.nB, T.numB])
  · have hd' : ((x.sl : Int) == 0) = false := by simp [hs0]
    clear hs0
    go_enter Tryz.func57, Tryz.ntmps57
    go_wp2_with fail
    go_quiet (fail)
    go_wp2_with (first | (go_at_call 90; refine (prim_calls _ _ hts).mono ?_; rintro e w1 ⟨rfl, hb⟩))
    all_goals go_ret
    all_goals refine FieldsPost.mk' ?_ (by first | exact drew_same _ | exact (drew_same _).trans (by simpa using hb))
    all_goals (rw [HF.out]; simp_all [T.textB, T.nB, T.numB])

set_option maxHeartbeats 4000000 in
theorem fields_vname (t : T) (x : TV) (tb to B : Nat) (w : World) (hr : Rep w B t x) (hat : At w tb to x) (hB : B ≤ w.heap.size) (hk : x.kind = 21) :
    Calls Tryz.prog 57 #[.pointer (some ⟨tb, to, none⟩)] w (FieldsPost t w) := by
  obtain ⟨t0, t1, t2, t3, t4, t5⟩ := hat
  clear t5
  have hwee := hr.wee
  have hts : x.text.size ≤ maxLen := by have := hwee.ts; unfold maxLen; omega
  have hsl : x.sl ≤ 17592186044416 := hwee.s1
  have hal : x.al ≤ 17592186044416 := hwee.a1
  have hfe : t.fields = (T.textB 21 x.text.data.toList && T.nB 21 x.n && T.numB 21 t.shape t.atoms) := by
    rw [T.fields_eq, ← hr.kind, ← hr.text, ← hr.n, hk]
  rw [show T.numB 21 t.shape t.atoms = _ from numB_else (by decide) (by decide) hr.shape.1 hr.atoms.1] at hfe
  have HF := Lib.hid hfe
  have HS := Lib.hid hr.shape
  have HA := Lib.hid hr.atoms
  clear hfe hr
  have HK := Lib.hid hk
  rw [hk] at t0
  clear hk
  by_cases hs0 : x.sl = 0
  · have hd' : ((x.sl : Int) == 0) = true := by simp [hs0]
    clear hs0
    go_enter Tryz.func57, Tryz.ntmps57
    go_wp2_with fail
    go_quiet (fail)
    go_wp2_with (first | (go_at_call 89; refine (named_calls _ _ _ _ hwee.ts).mono ?_; rintro e w1 ⟨rfl, rfl⟩))
    all_goals go_ret
    all_goals refine FieldsPost.mk' ?_ (by first | exact drew_same _ | exact (drew_same _).trans (by simpa using hb))
    all_goals (rw [HF.out]; simp_all [T.textB, T.nB, T.numB])
  · have hd' : ((x.sl : Int) == 0) = false := by simp [hs0]
    clear hs0
    go_enter Tryz.func57, Tryz.ntmps57
    go_wp2_with fail
    go_quiet (fail)
    go_wp2_with (first | (go_at_call 89; refine (named_calls _ _ _ _ hwee.ts).mono ?_; rintro e w1 ⟨rfl, rfl⟩))
    all_goals go_ret
    all_goals refine FieldsPost.mk' ?_ (by first | exact drew_same _ | exact (drew_same _).trans (by simpa using hb))
    all_goals (rw [HF.out]; simp_all [T.textB, T.nB, T.numB])

set_option maxHeartbeats 4000000 in
theorem fields_def (t : T) (x : TV) (tb to B : Nat) (w : World) (hr : Rep w B t x) (hat : At w tb to x) (hB : B ≤ w.heap.size) (hk : x.kind = 23) :
    Calls Tryz.prog 57 #[.pointer (some ⟨tb, to, none⟩)] w (FieldsPost t w) := by
  obtain ⟨t0, t1, t2, t3, t4, t5⟩ := hat
  clear t5
  have hwee := hr.wee
  have hts : x.text.size ≤ maxLen := by have := hwee.ts; unfold maxLen; omega
  have hsl : x.sl ≤ 17592186044416 := hwee.s1
  have hal : x.al ≤ 17592186044416 := hwee.a1
  have hfe : t.fields = (T.textB 23 x.text.data.toList && T.nB 23 x.n && T.numB 23 t.shape t.atoms) := by
    rw [T.fields_eq, ← hr.kind, ← hr.text, ← hr.n, hk]
  rw [show T.textB 23 x.text.data.toList = x.text.toList.isEmpty from T.textB_else (by decide) (by decide) (by decide) (by decide)] at hfe
  rw [show T.numB 23 t.shape t.atoms = _ from numB_else (by decide) (by decide) hr.shape.1 hr.atoms.1] at hfe
  have HF := Lib.hid hfe
  have HS := Lib.hid hr.shape
  have HA := Lib.hid hr.atoms
  clear hfe hr
  have HK := Lib.hid hk
  rw [hk] at t0
  clear hk
  by_cases hs0 : x.sl = 0
  · have hd' : ((x.sl : Int) == 0) = true := by simp [hs0]
    clear hs0
    go_enter Tryz.func57, Tryz.ntmps57
    go_wp2_with fail
    go_quiet (fail)
    go_wp2_with (first | fail)
    all_goals go_ret
    all_goals refine FieldsPost.mk' ?_ (by first | exact drew_same _ | exact (drew_same _).trans (by simpa using hb))
    all_goals (rw [HF.out]; simp_all [T.textB, T.nB, T.numB])
  · have hd' : ((x.sl : Int) == 0) = false := by simp [hs0]
    clear hs0
    go_enter Tryz.func57, Tryz.ntmps57
    go_wp2_with fail
    go_quiet (fail)
    go_wp2_with (first | fail)
    all_goals go_ret
    all_goals refine FieldsPost.mk' ?_ (by first | exact drew_same _ | exact (drew_same _).trans (by simpa using hb))
    all_goals (rw [HF.out]; simp_all [T.textB, T.nB, T.numB])

set_option maxHeartbeats 4000000 in
theorem fields_rank (t : T) (x : TV) (tb to B : Nat) (w : World) (hr : Rep w B t x) (hat : At w tb to x) (hB : B ≤ w.heap.size) (hk : x.kind = 42) :
    Calls Tryz.prog 57 #[.pointer (some ⟨tb, to, none⟩)] w (FieldsPost t w) := by
  obtain ⟨t0, t1, t2, t3, t4, t5⟩ := hat
  clear t5
  have hwee := hr.wee
  have hts : x.text.size ≤ maxLen := by have := hwee.ts; unfold maxLen; omega
  have hsl : x.sl ≤ 17592186044416 := hwee.s1
  have hal : x.al ≤ 17592186044416 := hwee.a1
  have hfe : t.fields = (T.textB 42 x.text.data.toList && T.nB 42 x.n && T.numB 42 t.shape t.atoms) := by
    rw [T.fields_eq, ← hr.kind, ← hr.text, ← hr.n, hk]
  rw [show T.textB 42 x.text.data.toList = x.text.toList.isEmpty from T.textB_else (by decide) (by decide) (by decide) (by decide)] at hfe
  have HF := Lib.hid hfe
  have HS := Lib.hid hr.shape
  have HA := Lib.hid hr.atoms
  clear hfe hr
  have HK := Lib.hid hk
  rw [hk] at t0
  clear hk
  by_cases hs0 : x.sl = 0
  · have hd' : ((x.sl : Int) == 0) = true := by simp [hs0]
    clear hs0
    go_enter Tryz.func57, Tryz.ntmps57
    go_wp2_with fail
    go_quiet (fail)
    go_wp2_with (first | (go_at_call 91; refine (ranks_calls _ _ _ _ _ _ B t.shape t.atoms _ (HS.out.keep (keeps_drewN _ _ _)) (HA.out.keep (keeps_drewN _ _ _)) (by simpa using hB) hsl hal).mono ?_; rintro e w1 ⟨rfl, hb⟩))
    all_goals go_ret
    all_goals refine FieldsPost.mk' ?_ (by first | exact drew_same _ | exact (drew_same _).trans (by simpa using hb))
    all_goals (rw [HF.out]; simp_all [T.textB, T.nB, T.numB])
  · have hd' : ((x.sl : Int) == 0) = false := by simp [hs0]
    clear hs0
    go_enter Tryz.func57, Tryz.ntmps57
    go_wp2_with fail
    go_quiet (fail)
    go_wp2_with (first | (go_at_call 91; refine (ranks_calls _ _ _ _ _ _ B t.shape t.atoms _ (HS.out.keep (keeps_drewN _ _ _)) (HA.out.keep (keeps_drewN _ _ _)) (by simpa using hB) hsl hal).mono ?_; rintro e w1 ⟨rfl, hb⟩))
    all_goals go_ret
    all_goals refine FieldsPost.mk' ?_ (by first | exact drew_same _ | exact (drew_same _).trans (by simpa using hb))
    all_goals (rw [HF.out]; simp_all [T.textB, T.nB, T.numB])

set_option maxHeartbeats 4000000 in
theorem fields_else (t : T) (x : TV) (tb to B : Nat) (w : World) (hr : Rep w B t x) (hat : At w tb to x) (hB : B ≤ w.heap.size) (n1 : x.kind ≠ 1) (n2 : x.kind ≠ 2) (n11 : x.kind ≠ 11) (n20 : x.kind ≠ 20) (n21 : x.kind ≠ 21) (n23 : x.kind ≠ 23) (n42 : x.kind ≠ 42) :
    Calls Tryz.prog 57 #[.pointer (some ⟨tb, to, none⟩)] w (FieldsPost t w) := by
  obtain ⟨t0, t1, t2, t3, t4, t5⟩ := hat
  clear t5
  have hwee := hr.wee
  have hts : x.text.size ≤ maxLen := by have := hwee.ts; unfold maxLen; omega
  have hsl : x.sl ≤ 17592186044416 := hwee.s1
  have hal : x.al ≤ 17592186044416 := hwee.a1
  have hfe : t.fields = (T.textB x.kind x.text.data.toList && T.nB x.kind x.n && T.numB x.kind t.shape t.atoms) := by
    rw [T.fields_eq, ← hr.kind, ← hr.text, ← hr.n]
  rw [show T.textB x.kind x.text.data.toList = x.text.toList.isEmpty from T.textB_else n2 n11 n20 n21] at hfe
  rw [show T.numB x.kind t.shape t.atoms = _ from numB_else n1 n42 hr.shape.1 hr.atoms.1] at hfe
  rw [show T.nB x.kind x.n = (x.n == 0) from by simp [T.nB, n23]] at hfe
  have HF := Lib.hid hfe
  have HS := Lib.hid hr.shape
  have HA := Lib.hid hr.atoms
  clear hfe hr
  by_cases hs0 : x.sl = 0
  · have hd' : ((x.sl : Int) == 0) = true := by simp [hs0]
    clear hs0
    go_enter Tryz.func57, Tryz.ntmps57
    go_wp2_with fail
    go_quiet (fail)
    go_wp2_with (first | fail)
    all_goals go_ret
    all_goals refine FieldsPost.mk' ?_ (by first | exact drew_same _ | exact (drew_same _).trans (by simpa using hb))
    all_goals (rw [HF.out]; simp_all [T.textB, T.nB, T.numB])
  · have hd' : ((x.sl : Int) == 0) = false := by simp [hs0]
    clear hs0
    go_enter Tryz.func57, Tryz.ntmps57
    go_wp2_with fail
    go_quiet (fail)
    go_wp2_with (first | fail)
    all_goals go_ret
    all_goals refine FieldsPost.mk' ?_ (by first | exact drew_same _ | exact (drew_same _).trans (by simpa using hb))
    all_goals (rw [HF.out]; simp_all [T.textB, T.nB, T.numB])

theorem fields_calls (t : T) (x : TV) (tb to B : Nat) (w : World) (hr : Rep w B t x) (hat : At w tb to x) (hB : B ≤ w.heap.size) :
    Calls Tryz.prog 57 #[.pointer (some ⟨tb, to, none⟩)] w (FieldsPost t w) := by
  by_cases h1 : x.kind = 1
  · exact fields_num t x tb to B w hr hat hB h1
  by_cases h2 : x.kind = 2
  · exact fields_name t x tb to B w hr hat hB h2
  by_cases h3 : x.kind = 11
  · exact fields_set t x tb to B w hr hat hB h3
  by_cases h4 : x.kind = 20
  · exact fields_prim t x tb to B w hr hat hB h4
  by_cases h5 : x.kind = 21
  · exact fields_vname t x tb to B w hr hat hB h5
  by_cases h6 : x.kind = 23
  · exact fields_def t x tb to B w hr hat hB h6
  by_cases h7 : x.kind = 42
  · exact fields_rank t x tb to B w hr hat hB h7
  exact fields_else t x tb to B w hr hat hB h1 h2 h3 h4 h5 h6 h7
end Go.Proofs.YtboondbognbnnaaGreatDoor

namespace Go.Proofs.YtboondbognbnnaaGreatDoor
open Go.RowKit

theorem T.isOf_isK (t : T) (c : UInt8) : T.isOf t c = T.isK t.kind t.text.data.toList c.toNat := by
  have h : ∀ n : Nat, n < 256 → (((c.toNat : Int) = (n : Int)) ↔ c = UInt8.ofNat n) := by
    intro n hn
    constructor
    · intro h
      have : c.toNat = n := by omega
      rw [← this]; simp
    · rintro rfl; simp; omega
  unfold T.isOf T.isK
  have h1 := h 110 (by omega)
  have h2 := h 118 (by omega)
  have h3 := h 98 (by omega)
  have h4 := h 111 (by omega)
  simp only [show ((110 : Nat) : Int) = 110 from rfl, show ((118 : Nat) : Int) = 118 from rfl, show ((98 : Nat) : Int) = 98 from rfl, show ((111 : Nat) : Int) = 111 from rfl] at h1 h2 h3 h4
  simp only [h1, h2, h3, h4]
  rfl

/-- the contract -/
def KidsPost (t : T) (w : World) (e : Ending) (w' : World) : Prop := e = .returned (.bool t.kidsOk) ∧ Below w.heap.size w w'
theorem KidsPost.mk' {t : T} {w w' : World} {b : Bool} (h : b = t.kidsOk) (hb : Below w.heap.size w w') : KidsPost t w (.returned (.bool b)) w' := ⟨by rw [h], hb⟩
/-- the kids ahead of k are each of its letter -/
def okTill (l : List T) (p : Nat → UInt8) (k : Nat) : Prop := ∀ i u, i < k → l[i]? = some u → T.isOf u (p i) = true
theorem okTill_zero (l : List T) (p : Nat → UInt8) : okTill l p 0 := fun i u h => absurd h (by omega)
theorem okTill_succ {l : List T} {p : Nat → UInt8} {k : Nat} {u : T} (h : okTill l p k) (hu : l[k]? = some u) (hi : T.isOf u (p k) = true) : okTill l p (k + 1) := by
  intro i v hlt hv
  by_cases e : i = k
  · subst e; rw [hu] at hv; injection hv with hv; subst hv; exact hi
  · exact h i v (by omega) hv
theorem okTill_all {l : List T} {c : UInt8} (h : okTill l (fun _ => c) l.length) : l.all (T.isOf · c) = true := by
  rw [List.all_eq_true]
  intro u hu
  obtain ⟨i, hi⟩ := List.mem_iff_getElem?.1 hu
  exact h i u (List.getElem?_eq_some_iff.1 hi).1 hi
theorem not_all {l : List T} {c : UInt8} {k : Nat} {u : T} (hu : l[k]? = some u) (hi : T.isOf u c = false) : l.all (T.isOf · c) = false := by
  rw [List.all_eq_false]
  exact ⟨u, List.mem_of_getElem? hu, by simp [hi]⟩
theorem allOf_okTill : ∀ {p : List UInt8} {l : List T}, l.length = p.length → okTill l (fun i => p.getD i 0) l.length → T.allOf l p = true
  | [], [], _, _ => rfl
  | c :: p, t :: l, hl, h => by
    simp only [T.allOf, Bool.and_eq_true]
    exact ⟨h 0 t (by simp) rfl, allOf_okTill (by simpa using hl) (fun i u hi hu => h (i + 1) u (by simpa using hi) (by simpa using hu))⟩
theorem not_allOf : ∀ {p : List UInt8} {l : List T} {k : Nat} {u : T}, l[k]? = some u → T.isOf u (p.getD k 0) = false → T.allOf l p = false
  | [], t :: l, _, _, _, _ => rfl
  | [], [], _, _, h, _ => by simp at h
  | c :: p, [], _, _, h, _ => by simp at h
  | c :: p, t :: l, 0, u, h, hi => by simp at h; subst h; simp only [List.getD_cons_zero] at hi; simp [T.allOf, hi]
  | c :: p, t :: l, k + 1, u, h, hi => by
    have := not_allOf (p := p) (l := l) (k := k) (u := u) (by simpa using h) (by simpa using hi)
    simp [T.allOf, this]
theorem allOf_len : ∀ {p : List UInt8} {l : List T}, l.length ≠ p.length → T.allOf l p = false
  | [], [], h => absurd rfl h
  | [], t :: l, _ => rfl
  | c :: p, [], _ => rfl
  | c :: p, t :: l, h => by
    have := allOf_len (p := p) (l := l) (by simpa using h)
    simp [T.allOf, this]

/-- is, its answer known -/
theorem is_known {u : T} {y : TV} {c : UInt8} {v : Bool} (hk : y.kind = u.kind) (ht : y.text = u.text) (hv : T.isOf u c = v) (W : World) :
    Calls Tryz.prog 93 #[.agg #[.int .i64 y.kind, .string y.text, .int .i64 y.n, .slice y.sa y.sl y.sc, .slice y.aa y.al y.ac, .slice y.ka y.kl y.kc], .int .u8 c.toNat] W fun e w' => e = .returned (.bool v) ∧ Below W.heap.size W w' := by
  have h := is_calls y c.toNat W
  rw [hk, ht, ← T.isOf_isK, hv] at h
  exact h
theorem Below.step {B : Nat} {w wr w2 : World} {o : Obj} (h : Below B w wr) (hB : B ≤ wr.heap.size) (h2 : Below (wr.heap.size + 1) (wr.alloc o) w2) : Below B w w2 :=
  (h.alloc hB o).trans (h2.mono (by omega))

set_option maxHeartbeats 4000000 in
theorem kids_s (t : T) (x : TV) (tb to B : Nat) (w : World) (hr : Rep w B t x) (hat : At w tb to x) (hB : B ≤ w.heap.size) (hp : T.pattern x.kind = [115]) :
    Calls Tryz.prog 58 #[.pointer (some ⟨tb, to, none⟩)] w (KidsPost t w) := by
  obtain ⟨t0, t1, t2, t3, t4, t5⟩ := hat
  clear t1 t2 t3 t4
  have HK := Lib.hid (show t.kidsOk = t.kids.all (T.isOf · 115) from by rw [T.kidsOk, ← hr.kind, hp]; rfl)
  have HP := Lib.hid (show ∀ W, Calls Tryz.prog 92 #[.int .i64 x.kind] W fun e w' => e = .returned (.string ⟨#[115]⟩) ∧ W = w' from fun W => by have := pattern_calls x.kind W; rw [hp] at this; exact this)
  have HL := Lib.hid hr.kl
  have hk1 : x.kl ≤ 2199023255552 := hr.wee.l1
  have HR := Lib.hid hr
  clear hp hr
  go_enter Tryz.func58, Tryz.ntmps58
  go_wp2_with (go_at_call 92; refine (HP.out _).mono ?_; rintro e w1 ⟨rfl, rfl⟩)
  go_loopw [23] (fun i wr => ∃ k : Nat, k ≤ x.kl ∧ i = .int .i64 k ∧ Hid (okTill t.kids (fun _ => 115) k) ∧ Below w.heap.size w wr) (fun i _ => x.kl - (intOf i).toNat)
  case atStart => exact ⟨0, Nat.zero_le _, rfl, okTill_zero _ _, Below.refl _ _⟩
  case round =>
    obtain ⟨k, hk, rfl, hok, hbel⟩ := hrel
    by_cases hlt : k < x.kl
    · obtain ⟨u, hu⟩ : ∃ u, t.kids[k]? = some u := ⟨t.kids[k]'(by rw [← HL.out]; exact hlt), by simp⟩
      obtain ⟨b, o, y, he, hb, hat, hru⟩ := HR.out.kid hu
      have hat' := hat.keep hb (Keeps.of_below hbel hB)
      have HU := Lib.hid hu
      have hbw : b < wr.heap.size := by have := hbel.size; omega
      obtain ⟨c0, c1, c2, c3, c4, c5⟩ := hat'
      have HB := Lib.hid hbel
      rw [he]
      cases hv : T.isOf u 115
      all_goals
        have HC := Lib.hid (is_known (y := y) (c := 115) hru.kind hru.text hv)
        have HV := Lib.hid hv
        clear hu hat hru he hbel hv
        go_wp2_with (go_at_call 93; refine (HC.out _).mono ?_; rintro e w2 ⟨rfl, hb2⟩)
        have HB2 := Lib.hid (Below.step HB.out (HB.out.size) (by simpa using hb2))
        clear hb2 c0 c1 c2 c3 c4 c5
      · go_ret
        exact KidsPost.mk' (by rw [HK.out, not_all HU.out HV.out]) HB2.out
      · go_roundw
        case rel => exact ⟨k + 1, by omega, by go_num, okTill_succ hok.out HU.out HV.out, HB2.out⟩
        case measure => simp [intOf]; omega
    · obtain rfl : k = x.kl := by omega
      have HB := Lib.hid hbel
      clear hbel
      go_wp2_with fail
      go_ret
      exact KidsPost.mk' (by rw [HK.out, okTill_all (by rw [← HL.out]; exact hok.out)]) HB.out
end Go.Proofs.YtboondbognbnnaaGreatDoor

namespace Go.Proofs.YtboondbognbnnaaGreatDoor
open Go.RowKit

theorem Below.step2 {B : Nat} {w wr w2 : World} {o : Obj} (h : Below B w wr) (hB : B ≤ wr.heap.size) (h2 : Below (wr.alloc o).drew.heap.size (wr.alloc o).drew w2) : Below B w w2 :=
  (h.alloc hB o).drew.trans (h2.mono (by have := Below.refl 0 (wr.alloc o); show B ≤ (wr.alloc o).heap.size; simp; omega))
/-- a drawn region whose first n operations only read, the rest in one forced order -/
theorem still_tail {P : Program} {id : Nat} {Q : Exit → Act → World → Prop} {a : Act} {w : World} {l : List Oper} (n : Nat) (hm : P.follows .mixedOrders = true) (hB : Region.lexTailB .any l.toArray n = true)
    (h : wpStill P l.toArray w.drew (fun a' => wpList P l.toArray Q (l.drop n) a' w.drew) (l.take n) a) : (Code.region id l.toArray true).wp P Q a w := wp_region_still_tail n hm hB h

set_option maxRecDepth 100000 in
set_option maxHeartbeats 4000000 in
theorem kids_n (t : T) (x : TV) (tb to B : Nat) (w : World) (hr : Rep w B t x) (hat : At w tb to x) (hB : B ≤ w.heap.size) (hp : T.pattern x.kind = [110, 43]) :
    Calls Tryz.prog 58 #[.pointer (some ⟨tb, to, none⟩)] w (KidsPost t w) := by
  obtain ⟨t0, t1, t2, t3, t4, t5⟩ := hat
  clear t1 t2 t3 t4
  have HK := Lib.hid (show t.kidsOk = (decide (2 ≤ t.kids.length) && decide (t.kids.length ≤ 17) && t.kids.all (T.isOf · 110)) from by rw [T.kidsOk, ← hr.kind, hp]; rfl)
  have HP := Lib.hid (show ∀ W, Calls Tryz.prog 92 #[.int .i64 x.kind] W fun e w' => e = .returned (.string ⟨#[110, 43]⟩) ∧ W = w' from fun W => by have := pattern_calls x.kind W; rw [hp] at this; exact this)
  have h43 : ((ByteArray.mk #[110, 43])[1]'(by decide)).toNat = 43 := rfl
  have h00 : ((ByteArray.mk #[110, 43])[0]'(by decide)).toNat = 110 := rfl
  have HL := Lib.hid hr.kl
  have hk1 : x.kl ≤ 2199023255552 := hr.wee.l1
  have HR := Lib.hid hr
  clear hp hr
  by_cases h2 : x.kl < 2
  · have hd : decide ((x.kl : Int) < 2) = true := by simp; omega
    go_enter Tryz.func58, Tryz.ntmps58
    go_wp2_with (go_at_call 92; refine (HP.out _).mono ?_; rintro e w1 ⟨rfl, rfl⟩)
    all_goals go_ret
    all_goals exact KidsPost.mk' (by rw [HK.out, ← HL.out]; simp; omega) (Below.refl _ _)
  have hd2 : decide ((x.kl : Int) < 2) = false := by simp; omega
  by_cases h17 : 17 < x.kl
  · have hd : decide ((17 : Int) < x.kl) = true := by simp; omega
    go_enter Tryz.func58, Tryz.ntmps58
    go_wp2_with (go_at_call 92; refine (HP.out _).mono ?_; rintro e w1 ⟨rfl, rfl⟩)
    all_goals go_ret
    all_goals exact KidsPost.mk' (by rw [HK.out, ← HL.out]; simp; omega) (Below.refl _ _)
  have hd3 : decide ((17 : Int) < x.kl) = false := by simp; omega
  go_enter Tryz.func58, Tryz.ntmps58
  go_wp2_with (go_at_call 92; refine (HP.out _).mono ?_; rintro e w1 ⟨rfl, rfl⟩)
  go_loopw [59] (fun i wr => ∃ k : Nat, k ≤ x.kl ∧ i = .int .i64 k ∧ Hid (okTill t.kids (fun _ => 110) k) ∧ Below w.heap.size w wr) (fun i _ => x.kl - (intOf i).toNat)
  case atStart => exact ⟨0, Nat.zero_le _, rfl, okTill_zero _ _, Below.refl _ _⟩
  case round =>
    obtain ⟨k, hk, rfl, hok, hbel⟩ := hrel
    by_cases hlt : k < x.kl
    · obtain ⟨u, hu⟩ : ∃ u, t.kids[k]? = some u := ⟨t.kids[k]'(by rw [← HL.out]; exact hlt), by simp⟩
      obtain ⟨b, o, y, he, hb, hat, hru⟩ := HR.out.kid hu
      have hat' := hat.keep hb (Keeps.of_below hbel hB)
      have HU := Lib.hid hu
      have hbw : b < wr.heap.size := by have := hbel.size; omega
      obtain ⟨c0, c1, c2, c3, c4, c5⟩ := hat'
      have HB := Lib.hid hbel
      rw [he]
      cases hv : T.isOf u 110
      all_goals
        have HC := Lib.hid (is_known (y := y) (c := 110) hru.kind hru.text hv)
        have HV := Lib.hid hv
        clear hu hat hru he hbel hv
        go_wp2_with fail
        refine still_tail 3 (by kernel_rfl) (by kernel_rfl) ?_
        simp only [List.take_succ_cons, List.take_zero, List.drop_succ_cons, List.drop_zero]
        repeat still_step
        refine wpStill_nil ?_
        go_wp2_with (go_at_call 93; refine (HC.out _).mono ?_; rintro e w2 ⟨rfl, hb2⟩)
        have HB2 := Lib.hid (Below.step2 HB.out HB.out.size hb2)
        clear hb2 c0 c1 c2 c3 c4 c5
      · go_ret
        exact KidsPost.mk' (by rw [HK.out, not_all HU.out HV.out]; simp) HB2.out
      · go_roundw
        case rel => exact ⟨k + 1, by omega, by go_num, okTill_succ hok.out HU.out HV.out, HB2.out⟩
        case measure => simp [intOf]; omega
    · obtain rfl : k = x.kl := by omega
      have HB := Lib.hid hbel
      clear hbel
      go_wp2_with fail
      go_ret
      exact KidsPost.mk' (by rw [HK.out, okTill_all (by rw [← HL.out]; exact hok.out), ← HL.out]; simp; omega) HB.out

set_option maxRecDepth 100000 in
set_option maxHeartbeats 4000000 in
theorem kids_v (t : T) (x : TV) (tb to B : Nat) (w : World) (hr : Rep w B t x) (hat : At w tb to x) (hB : B ≤ w.heap.size) (hp : T.pattern x.kind = [118, 43]) :
    Calls Tryz.prog 58 #[.pointer (some ⟨tb, to, none⟩)] w (KidsPost t w) := by
  obtain ⟨t0, t1, t2, t3, t4, t5⟩ := hat
  clear t1 t2 t3 t4
  have HK := Lib.hid (show t.kidsOk = (decide (2 ≤ t.kids.length) && decide (t.kids.length ≤ 17) && t.kids.all (T.isOf · 118)) from by rw [T.kidsOk, ← hr.kind, hp]; rfl)
  have HP := Lib.hid (show ∀ W, Calls Tryz.prog 92 #[.int .i64 x.kind] W fun e w' => e = .returned (.string ⟨#[118, 43]⟩) ∧ W = w' from fun W => by have := pattern_calls x.kind W; rw [hp] at this; exact this)
  have h43 : ((ByteArray.mk #[118, 43])[1]'(by decide)).toNat = 43 := rfl
  have h00 : ((ByteArray.mk #[118, 43])[0]'(by decide)).toNat = 118 := rfl
  have HL := Lib.hid hr.kl
  have hk1 : x.kl ≤ 2199023255552 := hr.wee.l1
  have HR := Lib.hid hr
  clear hp hr
  by_cases h2 : x.kl < 2
  · have hd : decide ((x.kl : Int) < 2) = true := by simp; omega
    go_enter Tryz.func58, Tryz.ntmps58
    go_wp2_with (go_at_call 92; refine (HP.out _).mono ?_; rintro e w1 ⟨rfl, rfl⟩)
    all_goals go_ret
    all_goals exact KidsPost.mk' (by rw [HK.out, ← HL.out]; simp; omega) (Below.refl _ _)
  have hd2 : decide ((x.kl : Int) < 2) = false := by simp; omega
  by_cases h17 : 17 < x.kl
  · have hd : decide ((17 : Int) < x.kl) = true := by simp; omega
    go_enter Tryz.func58, Tryz.ntmps58
    go_wp2_with (go_at_call 92; refine (HP.out _).mono ?_; rintro e w1 ⟨rfl, rfl⟩)
    all_goals go_ret
    all_goals exact KidsPost.mk' (by rw [HK.out, ← HL.out]; simp; omega) (Below.refl _ _)
  have hd3 : decide ((17 : Int) < x.kl) = false := by simp; omega
  go_enter Tryz.func58, Tryz.ntmps58
  go_wp2_with (go_at_call 92; refine (HP.out _).mono ?_; rintro e w1 ⟨rfl, rfl⟩)
  go_loopw [59] (fun i wr => ∃ k : Nat, k ≤ x.kl ∧ i = .int .i64 k ∧ Hid (okTill t.kids (fun _ => 118) k) ∧ Below w.heap.size w wr) (fun i _ => x.kl - (intOf i).toNat)
  case atStart => exact ⟨0, Nat.zero_le _, rfl, okTill_zero _ _, Below.refl _ _⟩
  case round =>
    obtain ⟨k, hk, rfl, hok, hbel⟩ := hrel
    by_cases hlt : k < x.kl
    · obtain ⟨u, hu⟩ : ∃ u, t.kids[k]? = some u := ⟨t.kids[k]'(by rw [← HL.out]; exact hlt), by simp⟩
      obtain ⟨b, o, y, he, hb, hat, hru⟩ := HR.out.kid hu
      have hat' := hat.keep hb (Keeps.of_below hbel hB)
      have HU := Lib.hid hu
      have hbw : b < wr.heap.size := by have := hbel.size; omega
      obtain ⟨c0, c1, c2, c3, c4, c5⟩ := hat'
      have HB := Lib.hid hbel
      rw [he]
      cases hv : T.isOf u 118
      all_goals
        have HC := Lib.hid (is_known (y := y) (c := 118) hru.kind hru.text hv)
        have HV := Lib.hid hv
        clear hu hat hru he hbel hv
        go_wp2_with fail
        refine still_tail 3 (by kernel_rfl) (by kernel_rfl) ?_
        simp only [List.take_succ_cons, List.take_zero, List.drop_succ_cons, List.drop_zero]
        repeat still_step
        refine wpStill_nil ?_
        go_wp2_with (go_at_call 93; refine (HC.out _).mono ?_; rintro e w2 ⟨rfl, hb2⟩)
        have HB2 := Lib.hid (Below.step2 HB.out HB.out.size hb2)
        clear hb2 c0 c1 c2 c3 c4 c5
      · go_ret
        exact KidsPost.mk' (by rw [HK.out, not_all HU.out HV.out]; simp) HB2.out
      · go_roundw
        case rel => exact ⟨k + 1, by omega, by go_num, okTill_succ hok.out HU.out HV.out, HB2.out⟩
        case measure => simp [intOf]; omega
    · obtain rfl : k = x.kl := by omega
      have HB := Lib.hid hbel
      clear hbel
      go_wp2_with fail
      go_ret
      exact KidsPost.mk' (by rw [HK.out, okTill_all (by rw [← HL.out]; exact hok.out), ← HL.out]; simp; omega) HB.out

set_option maxRecDepth 100000 in
set_option maxHeartbeats 4000000 in
theorem kids_gen (t : T) (x : TV) (tb to B : Nat) (w : World) (hr : Rep w B t x) (hat : At w tb to x) (hB : B ≤ w.heap.size) (s : ByteArray) (p : List UInt8) (hp : T.pattern x.kind = p) (hps : T.txt p = s) (h3 : s.size ≤ 3) (hl : p.length = s.size)
    (hg : ∀ k (h : k < s.size), p.getD k 0 = s[k]) (hne : (s.toList == [115]) = false) (hko : t.kidsOk = T.allOf t.kids p) (hplus : ∀ h : 1 < s.size, ((s[1].toNat : Int) == 43) = false) :
    Calls Tryz.prog 58 #[.pointer (some ⟨tb, to, none⟩)] w (KidsPost t w) := by
  obtain ⟨t0, t1, t2, t3, t4, t5⟩ := hat
  clear t1 t2 t3 t4
  have HK := Lib.hid hko
  have HP := Lib.hid (show ∀ W, Calls Tryz.prog 92 #[.int .i64 x.kind] W fun e w' => e = .returned (.string s) ∧ W = w' from fun W => by have := pattern_calls x.kind W; rw [hp, hps] at this; exact this)
  have HL := Lib.hid hr.kl
  have HPL := Lib.hid hl
  have hk1 : x.kl ≤ 2199023255552 := hr.wee.l1
  have HR := Lib.hid hr
  have HG := Lib.hid hg
  have HPLUS := Lib.hid hplus
  clear hp hr hps hl hko hg hplus
  by_cases hlen : ((x.kl : Int) != (s.size : Int)) = true
  · have HN := Lib.hid (show T.allOf t.kids p = false from allOf_len (by rw [HPL.out, ← HL.out]; simp at hlen; omega))
    by_cases hs2 : ((s.size : Int) == 2) = true
    · have h12 : 1 < s.size := by simp at hs2; omega
      have hpl := HPLUS.out h12
      go_enter Tryz.func58, Tryz.ntmps58
      go_wp2_with (go_at_call 92; refine (HP.out _).mono ?_; rintro e w1 ⟨rfl, rfl⟩)
      all_goals go_ret
      all_goals exact KidsPost.mk' (by rw [HK.out, HN.out]) (Below.refl _ _)
    · have hs2' : ((s.size : Int) == 2) = false := by simpa using hs2
      clear hs2
      go_enter Tryz.func58, Tryz.ntmps58
      go_wp2_with (go_at_call 92; refine (HP.out _).mono ?_; rintro e w1 ⟨rfl, rfl⟩)
      all_goals go_ret
      all_goals exact KidsPost.mk' (by rw [HK.out, HN.out]) (Below.refl _ _)
  have hlen' : ((x.kl : Int) != (s.size : Int)) = false := by simpa using hlen
  have hks : x.kl = s.size := by simp at hlen; omega
  have HKS := Lib.hid hks
  clear hlen hks
  have hs2or : (((s.size : Int) == 2) = true ∧ ∃ h12 : 1 < s.size, ((s[1].toNat : Int) == 43) = false) ∨ ((s.size : Int) == 2) = false := by
    cases hc : ((s.size : Int) == 2)
    · exact .inr rfl
    · have h12 : 1 < s.size := by simp at hc; omega
      exact .inl ⟨rfl, h12, HPLUS.out h12⟩
  rcases hs2or with ⟨hs2, h12, hpl⟩ | hs2
  all_goals
    go_enter Tryz.func58, Tryz.ntmps58
    go_wp2_with (go_at_call 92; refine (HP.out _).mono ?_; rintro e w1 ⟨rfl, rfl⟩)
    go_loopw [82] (fun i wr => ∃ k : Nat, k ≤ x.kl ∧ i = .int .i64 k ∧ Hid (okTill t.kids (fun i => p.getD i 0) k) ∧ Below w.heap.size w wr) (fun i _ => x.kl - (intOf i).toNat)
    case atStart => exact ⟨0, Nat.zero_le _, rfl, okTill_zero _ _, Below.refl _ _⟩
    case round =>
      obtain ⟨k, hk, rfl, hok, hbel⟩ := hrel
      by_cases hlt : k < x.kl
      · obtain ⟨u, hu⟩ : ∃ u, t.kids[k]? = some u := ⟨t.kids[k]'(by rw [← HL.out]; exact hlt), by simp⟩
        obtain ⟨b, o, y, he, hb, hat, hru⟩ := HR.out.kid hu
        have hat' := hat.keep hb (Keeps.of_below hbel hB)
        have HU := Lib.hid hu
        have hbw : b < wr.heap.size := by have := hbel.size; omega
        have hks : k < s.size := by rw [← HKS.out]; exact hlt
        obtain ⟨c0, c1, c2, c3, c4, c5⟩ := hat'
        have HB := Lib.hid hbel
        rw [he]
        cases hv : T.isOf u s[k]
        all_goals
          have HC := Lib.hid (is_known (y := y) (c := s[k]) hru.kind hru.text hv)
          have HV := Lib.hid ((congrArg (T.isOf u) (HG.out k hks)).trans hv)
          clear hu hat hru he hbel hv
          go_wp2_with fail
          refine still_tail 4 (by kernel_rfl) (by kernel_rfl) ?_
          simp only [List.take_succ_cons, List.take_zero, List.drop_succ_cons, List.drop_zero]
          repeat still_step
          refine wpStill_nil ?_
          go_wp2_with (go_at_call 93; refine (HC.out _).mono ?_; rintro e w2 ⟨rfl, hb2⟩)
          have HB2 := Lib.hid (Below.step2 HB.out HB.out.size hb2)
          clear hb2 c0 c1 c2 c3 c4 c5
        · go_ret
          exact KidsPost.mk' (by rw [HK.out, not_allOf HU.out HV.out]) HB2.out
        · go_roundw
          case rel => exact ⟨k + 1, by omega, by go_num, okTill_succ hok.out HU.out HV.out, HB2.out⟩
          case measure => simp [intOf]; omega
      · obtain rfl : k = x.kl := by omega
        have HB := Lib.hid hbel
        clear hbel
        go_wp2_with fail
        go_ret
        exact KidsPost.mk' (by rw [HK.out, allOf_okTill (by rw [HPL.out, ← HL.out, HKS.out]) (by rw [← HL.out]; exact hok.out)]) HB.out

theorem txt_size (p : List UInt8) : (T.txt p).size = p.length := by simp [T.txt, ByteArray.size]
theorem txt_toList (p : List UInt8) : (T.txt p).toList = p := by rw [ByteArray.toList_eq]; simp [T.txt]
theorem txt_get (p : List UInt8) (k : Nat) (h : k < (T.txt p).size) : p.getD k 0 = (T.txt p)[k] := by
  have h' : k < p.length := by rw [← txt_size p]; exact h
  rw [List.getD_eq_getElem?_getD, List.getElem?_eq_getElem h']
  show p[k] = (T.txt p).data[k]
  simp [T.txt]
theorem mem_ite {c : Prop} [Decidable c] {a b : List UInt8} {l : List (List UInt8)} (ha : a ∈ l) (hb : b ∈ l) : (if c then a else b) ∈ l := by split <;> assumption
theorem pattern_mem (k : Int) : T.pattern k ∈ ([[115], [110, 43], [118, 43], [], [118], [110], [111], [98], [118, 110], [118, 118], [118, 111], [111, 118], [110, 98], [118, 110, 110], [118, 118, 118], [110, 98, 98]] : List (List UInt8)) := by
  unfold T.pattern
  repeat' (refine mem_ite ?_ ?_)
  all_goals decide
theorem patterns_fit : ([[], [118], [110], [111], [98], [118, 110], [118, 118], [118, 111], [111, 118], [110, 98], [118, 110, 110], [118, 118, 118], [110, 98, 98]] : List (List UInt8)).all (fun p => p != [115] && p != [110, 43] && p != [118, 43] && p.getD 1 0 != 43 && decide (p.length ≤ 3)) = true := by decide
theorem kids_calls (t : T) (x : TV) (tb to B : Nat) (w : World) (hr : Rep w B t x) (hat : At w tb to x) (hB : B ≤ w.heap.size) :
    Calls Tryz.prog 58 #[.pointer (some ⟨tb, to, none⟩)] w (KidsPost t w) := by
  have h := pattern_mem x.kind
  by_cases h1 : T.pattern x.kind = [115]
  · exact kids_s t x tb to B w hr hat hB h1
  by_cases h2 : T.pattern x.kind = [110, 43]
  · exact kids_n t x tb to B w hr hat hB h2
  by_cases h3 : T.pattern x.kind = [118, 43]
  · exact kids_v t x tb to B w hr hat hB h3
  obtain ⟨p, hp⟩ : ∃ p, T.pattern x.kind = p := ⟨_, rfl⟩
  rw [hp] at h h1 h2 h3
  have hm : p ∈ ([[], [118], [110], [111], [98], [118, 110], [118, 118], [118, 111], [111, 118], [110, 98], [118, 110, 110], [118, 118, 118], [110, 98, 98]] : List (List UInt8)) := by
    simp only [List.mem_cons] at h ⊢
    rcases h with h | h | h | h
    · exact absurd h h1
    · exact absurd h h2
    · exact absurd h h3
    · exact h
  have hf := List.all_eq_true.1 patterns_fit p hm
  simp only [Bool.and_eq_true, bne_iff_ne, decide_eq_true_eq] at hf
  obtain ⟨⟨_, h43⟩, hle⟩ := hf
  refine kids_gen t x tb to B w hr hat hB (T.txt p) p hp rfl (by rw [txt_size]; exact hle) (txt_size p).symm (txt_get p) (by rw [txt_toList]; simpa using h1) ?_ ?_
  · rw [T.kidsOk, ← hr.kind, hp, T.kidsFor, if_neg h1, if_neg h2, if_neg h3]
  · intro h
    rw [← txt_get p 1 h]
    generalize p.getD 1 0 = c at h43
    rw [beq_eq_false_iff_ne]
    intro e
    apply h43
    have : c.toNat = 43 := by omega
    rw [show c = UInt8.ofNat c.toNat from by simp, this]; rfl
end Go.Proofs.YtboondbognbnnaaGreatDoor

namespace Go.Proofs.YtboondbognbnnaaGreatDoor
open Go.RowKit

/-- the contract of good -/
def GoodPost (t : T) (al : Bool) (w : World) (e : Ending) (w' : World) : Prop := e = .returned (.bool (T.good t al)) ∧ Below w.heap.size w w'
theorem GoodPost.mk' {t : T} {al b : Bool} {w w' : World} (h : b = T.good t al) (hb : Below w.heap.size w w') : GoodPost t al w (.returned (.bool b)) w' := ⟨by rw [h], hb⟩
def GoodAll (t : T) : Prop := ∀ (x : TV) (tb to B : Nat) (al : Bool) (w : World), Rep w B t x → At w tb to x → B ≤ w.heap.size →
  Calls Tryz.prog 32 #[.pointer (some ⟨tb, to, none⟩), .bool al] w (GoodPost t al w)

theorem class_known {x : TV} {c : Int} (h : T.cls x.kind = c) (W : World) :
    Calls Tryz.prog 33 #[.agg #[.int .i64 x.kind, .string x.text, .int .i64 x.n, .slice x.sa x.sl x.sc, .slice x.aa x.al x.ac, .slice x.ka x.kl x.kc]] W fun e w' => e = .returned (.int .i64 c) ∧ Below W.heap.size W w' := by
  have := class_calls x W
  rw [h] at this
  exact this
theorem fields_known {t : T} {x : TV} {tb to B : Nat} {v : Bool} (h : t.fields = v) {w W : World} (hr : Rep w B t x) (hat : At w tb to x) (hB : B ≤ w.heap.size) (hb : Below w.heap.size w W) (ht : tb < w.heap.size) :
    Calls Tryz.prog 57 #[.pointer (some ⟨tb, to, none⟩)] W fun e w' => e = .returned (.bool v) ∧ Below W.heap.size W w' := by
  have := fields_calls t x tb to B W (hr.below hb hB) (hat.keep ht (Keeps.of_below hb (Nat.le_refl _))) (Nat.le_trans hB hb.size)
  unfold FieldsPost at this
  rw [h] at this
  exact this
theorem kids_known {t : T} {x : TV} {tb to B : Nat} {v : Bool} (h : t.kidsOk = v) {w W : World} (hr : Rep w B t x) (hat : At w tb to x) (hB : B ≤ w.heap.size) (hb : Below w.heap.size w W) (ht : tb < w.heap.size) :
    Calls Tryz.prog 58 #[.pointer (some ⟨tb, to, none⟩)] W fun e w' => e = .returned (.bool v) ∧ Below W.heap.size W w' := by
  have := kids_calls t x tb to B W (hr.below hb hB) (hat.keep ht (Keeps.of_below hb (Nat.le_refl _))) (Nat.le_trans hB hb.size)
  unfold KidsPost at this
  rw [h] at this
  exact this
theorem T.good_eq (t : T) (al : Bool) : T.good t al = (T.node t al && T.goodL t.kids (T.under t al)) := by
  cases t with
  | mk k s n sh a l => rw [T.good_mk]; rfl
/-- the kids ahead of k are good -/
def goodTill (l : List T) (al : Bool) (k : Nat) : Prop := ∀ i u, i < k → l[i]? = some u → T.good u al = true
theorem goodTill_zero (l : List T) (al : Bool) : goodTill l al 0 := fun i u h => absurd h (by omega)
theorem goodTill_succ {l : List T} {al : Bool} {k : Nat} {u : T} (h : goodTill l al k) (hu : l[k]? = some u) (hi : T.good u al = true) : goodTill l al (k + 1) := by
  intro i v hlt hv
  by_cases e : i = k
  · subst e; rw [hu] at hv; injection hv with hv; subst hv; exact hi
  · exact h i v (by omega) hv
theorem goodTill_all {l : List T} {al : Bool} (h : goodTill l al l.length) : T.goodL l al = true := by
  rw [T.goodL_iff]
  intro u hu
  obtain ⟨i, hi⟩ := List.mem_iff_getElem?.1 hu
  exact h i u (List.getElem?_eq_some_iff.1 hi).1 hi
theorem goodL_false {l : List T} {al : Bool} {k : Nat} {u : T} (hu : l[k]? = some u) (hi : T.good u al = false) : T.goodL l al = false := by
  cases h : T.goodL l al
  · rfl
  · rw [T.goodL_iff] at h
    have := h u (List.mem_of_getElem? hu)
    rw [this] at hi; cases hi
theorem good_known {t : T} (h : GoodAll t) {x : TV} {tb to B : Nat} {al v : Bool} {w : World} (hr : Rep w B t x) (hat : At w tb to x) (hB : B ≤ w.heap.size) (hv : T.good t al = v) :
    Calls Tryz.prog 32 #[.pointer (some ⟨tb, to, none⟩), .bool al] w fun e w' => e = .returned (.bool v) ∧ Below w.heap.size w w' := by
  have := h x tb to B al w hr hat hB
  unfold GoodPost at this
  rw [hv] at this
  exact this

section
variable {t : T} {x : TV} {tb to B : Nat} {al : Bool} {w : World}

set_option maxHeartbeats 1000000 in
theorem good_class (hr : Rep w B t x) (hat : At w tb to x) (hB : B ≤ w.heap.size) (hc : T.cls x.kind = 0) : Calls Tryz.prog 32 #[.pointer (some ⟨tb, to, none⟩), .bool al] w (GoodPost t al w) := by
  have htb := World.block_lt_of_cell? w _ hat.c0
  have HR := Lib.hid hr
  have HAT := Lib.hid hat
  obtain ⟨t0, t1, t2, t3, t4, t5⟩ := hat
  have HC := Lib.hid (class_known (x := x) hc)
  have HCK := Lib.hid (show T.cls t.kind = 0 from by rw [← hr.kind]; exact hc)
  clear hc
  clear hr
  go_enter Tryz.func32, Tryz.ntmps32
  go_wp2_with (first | (go_at_call 33; refine (HC.out _).mono ?_; rintro e w1 ⟨rfl, hb1⟩; have B1 := Lib.hid hb1; obtain ⟨hc1, hf1⟩ := bcell hb1; have hz1 := hb1.size; clear hb1 hf1) | (go_at_call 57; refine (fields_known HF.out HR.out HAT.out hB B1.out htb).mono ?_; rintro e w2 ⟨rfl, hb2⟩; have B2 := Lib.hid (B1.out.trans (hb2.mono B1.out.size)); clear hb2; obtain ⟨hc2, hf2⟩ := bcell B2.out; have hz2 := B2.out.size; clear hf2) | (go_at_call 58; refine (kids_known HK.out HR.out HAT.out hB B2.out htb).mono ?_; rintro e w3 ⟨rfl, hb3⟩; have B3 := Lib.hid (B2.out.trans (hb3.mono B2.out.size)); clear hb3; obtain ⟨hc3, hf3⟩ := bcell B3.out; have hz3 := B3.out.size; clear hf3))
  go_ret
  exact GoodPost.mk' (by rw [T.good_eq]; simp [T.node, HCK.out]) B1.out

set_option maxHeartbeats 1000000 in
theorem good_fields (hr : Rep w B t x) (hat : At w tb to x) (hB : B ≤ w.heap.size) {c : Int} (hc : T.cls x.kind = c) (h0 : (c == 0) = false) (hf : t.fields = false) : Calls Tryz.prog 32 #[.pointer (some ⟨tb, to, none⟩), .bool al] w (GoodPost t al w) := by
  have htb := World.block_lt_of_cell? w _ hat.c0
  have HR := Lib.hid hr
  have HAT := Lib.hid hat
  obtain ⟨t0, t1, t2, t3, t4, t5⟩ := hat
  have HC := Lib.hid (class_known (x := x) hc)
  have HF := Lib.hid hf
  clear hc hf
  clear hr
  go_enter Tryz.func32, Tryz.ntmps32
  go_wp2_with (first | (go_at_call 33; refine (HC.out _).mono ?_; rintro e w1 ⟨rfl, hb1⟩; have B1 := Lib.hid hb1; obtain ⟨hc1, hf1⟩ := bcell hb1; have hz1 := hb1.size; clear hb1 hf1) | (go_at_call 57; refine (fields_known HF.out HR.out HAT.out hB B1.out htb).mono ?_; rintro e w2 ⟨rfl, hb2⟩; have B2 := Lib.hid (B1.out.trans (hb2.mono B1.out.size)); clear hb2; obtain ⟨hc2, hf2⟩ := bcell B2.out; have hz2 := B2.out.size; clear hf2) | (go_at_call 58; refine (kids_known HK.out HR.out HAT.out hB B2.out htb).mono ?_; rintro e w3 ⟨rfl, hb3⟩; have B3 := Lib.hid (B2.out.trans (hb3.mono B2.out.size)); clear hb3; obtain ⟨hc3, hf3⟩ := bcell B3.out; have hz3 := B3.out.size; clear hf3))
  go_ret
  exact GoodPost.mk' (by rw [T.good_eq]; simp [T.node, HF.out]) B2.out

set_option maxHeartbeats 1000000 in
theorem good_kids (hr : Rep w B t x) (hat : At w tb to x) (hB : B ≤ w.heap.size) {c : Int} (hc : T.cls x.kind = c) (h0 : (c == 0) = false) (hf : t.fields = true) (hk : t.kidsOk = false) : Calls Tryz.prog 32 #[.pointer (some ⟨tb, to, none⟩), .bool al] w (GoodPost t al w) := by
  have htb := World.block_lt_of_cell? w _ hat.c0
  have HR := Lib.hid hr
  have HAT := Lib.hid hat
  obtain ⟨t0, t1, t2, t3, t4, t5⟩ := hat
  have HC := Lib.hid (class_known (x := x) hc)
  have HF := Lib.hid hf
  have HK := Lib.hid hk
  clear hc hf hk
  clear hr
  go_enter Tryz.func32, Tryz.ntmps32
  go_wp2_with (first | (go_at_call 33; refine (HC.out _).mono ?_; rintro e w1 ⟨rfl, hb1⟩; have B1 := Lib.hid hb1; obtain ⟨hc1, hf1⟩ := bcell hb1; have hz1 := hb1.size; clear hb1 hf1) | (go_at_call 57; refine (fields_known HF.out HR.out HAT.out hB B1.out htb).mono ?_; rintro e w2 ⟨rfl, hb2⟩; have B2 := Lib.hid (B1.out.trans (hb2.mono B1.out.size)); clear hb2; obtain ⟨hc2, hf2⟩ := bcell B2.out; have hz2 := B2.out.size; clear hf2) | (go_at_call 58; refine (kids_known HK.out HR.out HAT.out hB B2.out htb).mono ?_; rintro e w3 ⟨rfl, hb3⟩; have B3 := Lib.hid (B2.out.trans (hb3.mono B2.out.size)); clear hb3; obtain ⟨hc3, hf3⟩ := bcell B3.out; have hz3 := B3.out.size; clear hf3))
  go_ret
  exact GoodPost.mk' (by rw [T.good_eq]; simp [T.node, HK.out]) B3.out

set_option maxHeartbeats 1000000 in
theorem good_x2 (hr : Rep w B t x) (hat : At w tb to x) (hB : B ≤ w.heap.size) {c : Int} (hc : T.cls x.kind = c) (h0 : (c == 0) = false) (hf : t.fields = true) (hk : t.kidsOk = true) (hal : al = true) (hkd : x.kind = 2) (hx : (x.text.toList == [120]) = true) : Calls Tryz.prog 32 #[.pointer (some ⟨tb, to, none⟩), .bool al] w (GoodPost t al w) := by
  have htb := World.block_lt_of_cell? w _ hat.c0
  have HR := Lib.hid hr
  have HAT := Lib.hid hat
  obtain ⟨t0, t1, t2, t3, t4, t5⟩ := hat
  have HC := Lib.hid (class_known (x := x) hc)
  have HF := Lib.hid hf
  have HK := Lib.hid hk
  have HKD := Lib.hid (show t.kind = 2 from by rw [← hr.kind]; exact hkd)
  have HX := Lib.hid (show t.text.data.toList = [120] from by rw [← hr.text, ← ByteArray.toList_eq]; simpa using hx)
  clear hc hf hk
  subst hal
  rw [hkd] at t0 HC
  clear hkd
  clear hr
  go_enter Tryz.func32, Tryz.ntmps32
  go_wp2_with (first | (go_at_call 33; refine (HC.out _).mono ?_; rintro e w1 ⟨rfl, hb1⟩; have B1 := Lib.hid hb1; obtain ⟨hc1, hf1⟩ := bcell hb1; have hz1 := hb1.size; clear hb1 hf1) | (go_at_call 57; refine (fields_known HF.out HR.out HAT.out hB B1.out htb).mono ?_; rintro e w2 ⟨rfl, hb2⟩; have B2 := Lib.hid (B1.out.trans (hb2.mono B1.out.size)); clear hb2; obtain ⟨hc2, hf2⟩ := bcell B2.out; have hz2 := B2.out.size; clear hf2) | (go_at_call 58; refine (kids_known HK.out HR.out HAT.out hB B2.out htb).mono ?_; rintro e w3 ⟨rfl, hb3⟩; have B3 := Lib.hid (B2.out.trans (hb3.mono B2.out.size)); clear hb3; obtain ⟨hc3, hf3⟩ := bcell B3.out; have hz3 := B3.out.size; clear hf3))
  go_ret
  exact GoodPost.mk' (by rw [T.good_eq]; simp [T.node, HKD.out, HX.out]) B3.out

set_option maxHeartbeats 1000000 in
theorem good_x11 (hr : Rep w B t x) (hat : At w tb to x) (hB : B ≤ w.heap.size) {c : Int} (hc : T.cls x.kind = c) (h0 : (c == 0) = false) (hf : t.fields = true) (hk : t.kidsOk = true) (hal : al = true) (hkd : x.kind = 11) (hx : (x.text.toList == [120]) = true) : Calls Tryz.prog 32 #[.pointer (some ⟨tb, to, none⟩), .bool al] w (GoodPost t al w) := by
  have htb := World.block_lt_of_cell? w _ hat.c0
  have HR := Lib.hid hr
  have HAT := Lib.hid hat
  obtain ⟨t0, t1, t2, t3, t4, t5⟩ := hat
  have HC := Lib.hid (class_known (x := x) hc)
  have HF := Lib.hid hf
  have HK := Lib.hid hk
  have HKD := Lib.hid (show t.kind = 11 from by rw [← hr.kind]; exact hkd)
  have HX := Lib.hid (show t.text.data.toList = [120] from by rw [← hr.text, ← ByteArray.toList_eq]; simpa using hx)
  clear hc hf hk
  subst hal
  rw [hkd] at t0 HC
  clear hkd
  clear hr
  go_enter Tryz.func32, Tryz.ntmps32
  go_wp2_with (first | (go_at_call 33; refine (HC.out _).mono ?_; rintro e w1 ⟨rfl, hb1⟩; have B1 := Lib.hid hb1; obtain ⟨hc1, hf1⟩ := bcell hb1; have hz1 := hb1.size; clear hb1 hf1) | (go_at_call 57; refine (fields_known HF.out HR.out HAT.out hB B1.out htb).mono ?_; rintro e w2 ⟨rfl, hb2⟩; have B2 := Lib.hid (B1.out.trans (hb2.mono B1.out.size)); clear hb2; obtain ⟨hc2, hf2⟩ := bcell B2.out; have hz2 := B2.out.size; clear hf2) | (go_at_call 58; refine (kids_known HK.out HR.out HAT.out hB B2.out htb).mono ?_; rintro e w3 ⟨rfl, hb3⟩; have B3 := Lib.hid (B2.out.trans (hb3.mono B2.out.size)); clear hb3; obtain ⟨hc3, hf3⟩ := bcell B3.out; have hz3 := B3.out.size; clear hf3))
  go_ret
  exact GoodPost.mk' (by rw [T.good_eq]; simp [T.node, HKD.out, HX.out]) B3.out

end
end Go.Proofs.YtboondbognbnnaaGreatDoor
