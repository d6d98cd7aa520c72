/- Package term: fields. -/
import Derived.Test.YtpfkhdlnjefikaaGreatDoorMPrimB
import Derived.BigGuardPart
set_option linter.unusedVariables false
set_option linter.unusedSimpArgs false
namespace Go.Proofs.YtpfkhdlnjefikaaGreatDoor
open Go.RowKit
theorem named_calls (s : ByteArray) (lo hi : Int) (w : World) (hs : s.size ≤ 140737488355328) : Calls Tryz.prog 86 #[.string s, .int .u8 lo, .int .u8 hi] w fun e w' => e = .returned (.bool (T.named s.data.toList lo hi)) ∧ w = w' := by
 by_cases h : 0 < s.size ∧ s.size ≤ 32
 · exact named_yes s lo hi w h.1 h.2
 · have hl : s.data.toList.length = s.size := Array.length_toList
   have : T.named s.data.toList lo hi = false := by
     generalize s.data.toList = L at *
     cases L with
     | nil => rfl
     | cons c r => simp only [T.named, Bool.and_eq_false_iff, decide_eq_false_iff_not]; simp only [List.length_cons] at hl ⊢; omega
   rw [this]
   exact named_no s lo hi w hs (by omega)
/-- what is asked of a text, a number, a Num, by the kind -/
def T.textB (k : Int) (s : List UInt8) : Bool := if k = 2 ∨ k = 11 then T.named s 97 122 else if k = 20 then T.isPrim s else if k = 21 then T.named s 65 90 else s.isEmpty
def T.nB (k n : Int) : Bool := if k = 23 then n == 1 || n == 2 else n == 0
def T.numB (k : Int) (sh at_ : List Int) : Bool := if k = 1 then T.literal sh at_ else if k = 42 then T.ranks sh at_ else sh.isEmpty && at_.isEmpty
theorem T.fields_eq (t : T) : t.fields = (T.textB t.kind t.text.data.toList && T.nB t.kind t.n && T.numB t.kind t.shape t.atoms) := rfl
theorem T.textB_else {k : Int} {s : ByteArray} (h2 : k ≠ 2) (h11 : k ≠ 11) (h20 : k ≠ 20) (h21 : k ≠ 21) : T.textB k s.data.toList = s.toList.isEmpty := by
 simp [T.textB, h2, h11, h20, h21, ByteArray.toList_eq]
theorem isEmpty_len {l : List Int} {k : Nat} (h : l.length = k) : l.isEmpty = ((k : Int) == 0) := by
 subst h; cases l
 · rfl
 · rw [Bool.eq_iff_iff]; simp; omega
theorem numB_else {k : Int} {sh at_ : List Int} {sl al : Nat} (h1 : k ≠ 1) (h42 : k ≠ 42) (hs : sh.length = sl) (ha : at_.length = al) : T.numB k sh at_ = (((sl : Int) == 0) && ((al : Int) == 0)) := by
 simp only [T.numB, h1, h42, if_false, isEmpty_len hs, isEmpty_len ha]
/-- the contract -/
def FieldsPost (t : T) (w : World) (e : Ending) (w' : World) : Prop := e = .returned (.bool t.fields) ∧ Below w.heap.size w w'
theorem FieldsPost.mk' {t : T} {w w' : World} {b : Bool} (h : b = t.fields) (hb : Below w.heap.size w w') : FieldsPost t w (.returned (.bool b)) w' := ⟨by rw [h], hb⟩
theorem keeps_drewN (B : Nat) (w : World) (n : Nat) : Keeps B w (w.drewN n) := fun _ _ _ => rfl
theorem drew_same {w : World} {B : Nat} (n : Nat) : Below B w (w.drewN n) := below_drewN (Below.refl _ _) n
set_option maxHeartbeats 4000000 in
theorem fields_num (t : T) (x : TV) (tb to B : Nat) (w : World) (hr : Rep w B t x) (hat : At w tb to x) (hB : B ≤ w.heap.size) (hk : x.kind = 1) :
   Calls Tryz.prog 55 #[.pointer (some ⟨tb, to, none⟩)] w (FieldsPost t w) := by
 obtain ⟨t0, t1, t2, t3, t4, t5⟩ := hat
 clear t5
 have hwee := hr.wee
 have hts : x.text.size ≤ maxLen := by have := hwee.ts; unfold maxLen; omega
 have hsl : x.sl ≤ 17592186044416 := hwee.s1
 have hal : x.al ≤ 17592186044416 := hwee.a1
 have hfe : t.fields = (T.textB 1 x.text.data.toList && T.nB 1 x.n && T.numB 1 t.shape t.atoms) := by
   rw [T.fields_eq, ← hr.kind, ← hr.text, ← hr.n, hk]
 rw [show T.textB 1 x.text.data.toList = x.text.toList.isEmpty from T.textB_else (by decide) (by decide) (by decide) (by decide)] at hfe
 have HF := hid hfe
 have HS := hid hr.shape
 have HA := hid hr.atoms
 clear hfe hr
 have HK := hid hk
 rw [hk] at t0
 clear hk
 by_cases hs0 : x.sl = 0
 · have hd' : ((x.sl : Int) == 0) = true := by simp [hs0]
   clear hs0
   go_enter Tryz.func55, Tryz.ntmps55
   go_wp2_with fail
   go_quiet (fail)
   go_wp2_with (first | (go_at_call 85; refine (literal_calls _ _ _ _ _ _ B t.shape t.atoms _ (HS.out.keep (keeps_drewN _ _ _)) (HA.out.keep (keeps_drewN _ _ _)) (by simpa using hB) hsl hal).mono ?_; rintro e w1 ⟨rfl, hb⟩))
   all_goals go_ret
   all_goals refine FieldsPost.mk' ?_ (by first | exact drew_same _ | exact (drew_same _).trans (by simpa using hb))
   all_goals (rw [HF.out]; simp_all [T.textB, T.nB, T.numB])
 · have hd' : ((x.sl : Int) == 0) = false := by simp [hs0]
   clear hs0
   go_enter Tryz.func55, Tryz.ntmps55
   go_wp2_with fail
   go_quiet (fail)
   go_wp2_with (first | (go_at_call 85; refine (literal_calls _ _ _ _ _ _ B t.shape t.atoms _ (HS.out.keep (keeps_drewN _ _ _)) (HA.out.keep (keeps_drewN _ _ _)) (by simpa using hB) hsl hal).mono ?_; rintro e w1 ⟨rfl, hb⟩))
   all_goals go_ret
   all_goals refine FieldsPost.mk' ?_ (by first | exact drew_same _ | exact (drew_same _).trans (by simpa using hb))
   all_goals (rw [HF.out]; simp_all [T.textB, T.nB, T.numB])
set_option maxHeartbeats 4000000 in
theorem fields_name (t : T) (x : TV) (tb to B : Nat) (w : World) (hr : Rep w B t x) (hat : At w tb to x) (hB : B ≤ w.heap.size) (hk : x.kind = 2) :
   Calls Tryz.prog 55 #[.pointer (some ⟨tb, to, none⟩)] w (FieldsPost t w) := by
 obtain ⟨t0, t1, t2, t3, t4, t5⟩ := hat
 clear t5
 have hwee := hr.wee
 have hts : x.text.size ≤ maxLen := by have := hwee.ts; unfold maxLen; omega
 have hsl : x.sl ≤ 17592186044416 := hwee.s1
 have hal : x.al ≤ 17592186044416 := hwee.a1
 have hfe : t.fields = (T.textB 2 x.text.data.toList && T.nB 2 x.n && T.numB 2 t.shape t.atoms) := by
   rw [T.fields_eq, ← hr.kind, ← hr.text, ← hr.n, hk]
 rw [show T.numB 2 t.shape t.atoms = _ from numB_else (by decide) (by decide) hr.shape.1 hr.atoms.1] at hfe
 have HF := hid hfe
 have HS := hid hr.shape
 have HA := hid hr.atoms
 clear hfe hr
 have HK := hid hk
 rw [hk] at t0
 clear hk
 by_cases hs0 : x.sl = 0
 · have hd' : ((x.sl : Int) == 0) = true := by simp [hs0]
   clear hs0
   go_enter Tryz.func55, Tryz.ntmps55
   go_wp2_with fail
   go_quiet (fail)
   go_wp2_with (first | (go_at_call 86; refine (named_calls _ _ _ _ hwee.ts).mono ?_; rintro e w1 ⟨rfl, rfl⟩))
   all_goals go_ret
   all_goals refine FieldsPost.mk' ?_ (by first | exact drew_same _ | exact (drew_same _).trans (by simpa using hb))
   all_goals (rw [HF.out]; simp_all [T.textB, T.nB, T.numB])
 · have hd' : ((x.sl : Int) == 0) = false := by simp [hs0]
   clear hs0
   go_enter Tryz.func55, Tryz.ntmps55
   go_wp2_with fail
   go_quiet (fail)
   go_wp2_with (first | (go_at_call 86; refine (named_calls _ _ _ _ hwee.ts).mono ?_; rintro e w1 ⟨rfl, rfl⟩))
   all_goals go_ret
   all_goals refine FieldsPost.mk' ?_ (by first | exact drew_same _ | exact (drew_same _).trans (by simpa using hb))
   all_goals (rw [HF.out]; simp_all [T.textB, T.nB, T.numB])
set_option maxHeartbeats 4000000 in
theorem fields_set (t : T) (x : TV) (tb to B : Nat) (w : World) (hr : Rep w B t x) (hat : At w tb to x) (hB : B ≤ w.heap.size) (hk : x.kind = 11) :
   Calls Tryz.prog 55 #[.pointer (some ⟨tb, to, none⟩)] w (FieldsPost t w) := by
 obtain ⟨t0, t1, t2, t3, t4, t5⟩ := hat
 clear t5
 have hwee := hr.wee
 have hts : x.text.size ≤ maxLen := by have := hwee.ts; unfold maxLen; omega
 have hsl : x.sl ≤ 17592186044416 := hwee.s1
 have hal : x.al ≤ 17592186044416 := hwee.a1
 have hfe : t.fields = (T.textB 11 x.text.data.toList && T.nB 11 x.n && T.numB 11 t.shape t.atoms) := by
   rw [T.fields_eq, ← hr.kind, ← hr.text, ← hr.n, hk]
 rw [show T.numB 11 t.shape t.atoms = _ from numB_else (by decide) (by decide) hr.shape.1 hr.atoms.1] at hfe
 have HF := hid hfe
 have HS := hid hr.shape
 have HA := hid hr.atoms
 clear hfe hr
 have HK := hid hk
 rw [hk] at t0
 clear hk
 by_cases hs0 : x.sl = 0
 · have hd' : ((x.sl : Int) == 0) = true := by simp [hs0]
   clear hs0
   go_enter Tryz.func55, Tryz.ntmps55
   go_wp2_with fail
   go_quiet (fail)
   go_wp2_with (first | (go_at_call 86; refine (named_calls _ _ _ _ hwee.ts).mono ?_; rintro e w1 ⟨rfl, rfl⟩))
   all_goals go_ret
   all_goals refine FieldsPost.mk' ?_ (by first | exact drew_same _ | exact (drew_same _).trans (by simpa using hb))
   all_goals (rw [HF.out]; simp_all [T.textB, T.nB, T.numB])
 · have hd' : ((x.sl : Int) == 0) = false := by simp [hs0]
   clear hs0
   go_enter Tryz.func55, Tryz.ntmps55
   go_wp2_with fail
   go_quiet (fail)
   go_wp2_with (first | (go_at_call 86; refine (named_calls _ _ _ _ hwee.ts).mono ?_; rintro e w1 ⟨rfl, rfl⟩))
   all_goals go_ret
   all_goals refine FieldsPost.mk' ?_ (by first | exact drew_same _ | exact (drew_same _).trans (by simpa using hb))
   all_goals (rw [HF.out]; simp_all [T.textB, T.nB, T.numB])
set_option maxHeartbeats 4000000 in
theorem fields_prim (t : T) (x : TV) (tb to B : Nat) (w : World) (hr : Rep w B t x) (hat : At w tb to x) (hB : B ≤ w.heap.size) (hk : x.kind = 20) :
   Calls Tryz.prog 55 #[.pointer (some ⟨tb, to, none⟩)] w (FieldsPost t w) := by
 obtain ⟨t0, t1, t2, t3, t4, t5⟩ := hat
 clear t5
 have hwee := hr.wee
 have hts : x.text.size ≤ maxLen := by have := hwee.ts; unfold maxLen; omega
 have hsl : x.sl ≤ 17592186044416 := hwee.s1
 have hal : x.al ≤ 17592186044416 := hwee.a1
 have hfe : t.fields = (T.textB 20 x.text.data.toList && T.nB 20 x.n && T.numB 20 t.shape t.atoms) := by
   rw [T.fields_eq, ← hr.kind, ← hr.text, ← hr.n, hk]
 rw [show T.numB 20 t.shape t.atoms = _ from numB_else (by decide) (by decide) hr.shape.1 hr.atoms.1] at hfe
 have HF := hid hfe
 have HS := hid hr.shape
 have HA := hid hr.atoms
 clear hfe hr
 have HK := hid hk
 rw [hk] at t0
 clear hk
 by_cases hs0 : x.sl = 0
 · have hd' : ((x.sl : Int) == 0) = true := by simp [hs0]
   clear hs0
   go_enter Tryz.func55, Tryz.ntmps55
   go_wp2_with fail
   go_quiet (fail)
   go_wp2_with (first | (go_at_call 87; refine (prim_calls _ _ hts).mono ?_; rintro e w1 ⟨rfl, hb⟩))
   all_goals go_ret
   all_goals refine FieldsPost.mk' ?_ (by first | exact drew_same _ | exact (drew_same _).trans (by simpa using hb))
   all_goals (rw [HF.out]; simp_all [T.textB, T.nB, T.numB])
 · have hd' : ((x.sl : Int) == 0) = false := by simp [hs0]
   clear hs0
   go_enter Tryz.func55, Tryz.ntmps55
   go_wp2_with fail
   go_quiet (fail)
   go_wp2_with (first | (go_at_call 87; refine (prim_calls _ _ hts).mono ?_; rintro e w1 ⟨rfl, hb⟩))
   all_goals go_ret
   all_goals refine FieldsPost.mk' ?_ (by first | exact drew_same _ | exact (drew_same _).trans (by simpa using hb))
   all_goals (rw [HF.out]; simp_all [T.textB, T.nB, T.numB])
set_option maxHeartbeats 4000000 in
theorem fields_vname (t : T) (x : TV) (tb to B : Nat) (w : World) (hr : Rep w B t x) (hat : At w tb to x) (hB : B ≤ w.heap.size) (hk : x.kind = 21) :
   Calls Tryz.prog 55 #[.pointer (some ⟨tb, to, none⟩)] w (FieldsPost t w) := by
 obtain ⟨t0, t1, t2, t3, t4, t5⟩ := hat
 clear t5
 have hwee := hr.wee
 have hts : x.text.size ≤ maxLen := by have := hwee.ts; unfold maxLen; omega
 have hsl : x.sl ≤ 17592186044416 := hwee.s1
 have hal : x.al ≤ 17592186044416 := hwee.a1
 have hfe : t.fields = (T.textB 21 x.text.data.toList && T.nB 21 x.n && T.numB 21 t.shape t.atoms) := by
   rw [T.fields_eq, ← hr.kind, ← hr.text, ← hr.n, hk]
 rw [show T.numB 21 t.shape t.atoms = _ from numB_else (by decide) (by decide) hr.shape.1 hr.atoms.1] at hfe
 have HF := hid hfe
 have HS := hid hr.shape
 have HA := hid hr.atoms
 clear hfe hr
 have HK := hid hk
 rw [hk] at t0
 clear hk
 by_cases hs0 : x.sl = 0
 · have hd' : ((x.sl : Int) == 0) = true := by simp [hs0]
   clear hs0
   go_enter Tryz.func55, Tryz.ntmps55
   go_wp2_with fail
   go_quiet (fail)
   go_wp2_with (first | (go_at_call 86; refine (named_calls _ _ _ _ hwee.ts).mono ?_; rintro e w1 ⟨rfl, rfl⟩))
   all_goals go_ret
   all_goals refine FieldsPost.mk' ?_ (by first | exact drew_same _ | exact (drew_same _).trans (by simpa using hb))
   all_goals (rw [HF.out]; simp_all [T.textB, T.nB, T.numB])
 · have hd' : ((x.sl : Int) == 0) = false := by simp [hs0]
   clear hs0
   go_enter Tryz.func55, Tryz.ntmps55
   go_wp2_with fail
   go_quiet (fail)
   go_wp2_with (first | (go_at_call 86; refine (named_calls _ _ _ _ hwee.ts).mono ?_; rintro e w1 ⟨rfl, rfl⟩))
   all_goals go_ret
   all_goals refine FieldsPost.mk' ?_ (by first | exact drew_same _ | exact (drew_same _).trans (by simpa using hb))
   all_goals (rw [HF.out]; simp_all [T.textB, T.nB, T.numB])
set_option maxHeartbeats 4000000 in
theorem fields_def (t : T) (x : TV) (tb to B : Nat) (w : World) (hr : Rep w B t x) (hat : At w tb to x) (hB : B ≤ w.heap.size) (hk : x.kind = 23) :
   Calls Tryz.prog 55 #[.pointer (some ⟨tb, to, none⟩)] w (FieldsPost t w) := by
 obtain ⟨t0, t1, t2, t3, t4, t5⟩ := hat
 clear t5
 have hwee := hr.wee
 have hts : x.text.size ≤ maxLen := by have := hwee.ts; unfold maxLen; omega
 have hsl : x.sl ≤ 17592186044416 := hwee.s1
 have hal : x.al ≤ 17592186044416 := hwee.a1
 have hfe : t.fields = (T.textB 23 x.text.data.toList && T.nB 23 x.n && T.numB 23 t.shape t.atoms) := by
   rw [T.fields_eq, ← hr.kind, ← hr.text, ← hr.n, hk]
 rw [show T.textB 23 x.text.data.toList = x.text.toList.isEmpty from T.textB_else (by decide) (by decide) (by decide) (by decide)] at hfe
 rw [show T.numB 23 t.shape t.atoms = _ from numB_else (by decide) (by decide) hr.shape.1 hr.atoms.1] at hfe
 have HF := hid hfe
 have HS := hid hr.shape
 have HA := hid hr.atoms
 clear hfe hr
 have HK := hid hk
 rw [hk] at t0
 clear hk
 by_cases hs0 : x.sl = 0
 · have hd' : ((x.sl : Int) == 0) = true := by simp [hs0]
   clear hs0
   go_enter Tryz.func55, Tryz.ntmps55
   go_wp2_with fail
   go_quiet (fail)
   go_wp2_with (first | fail)
   all_goals go_ret
   all_goals refine FieldsPost.mk' ?_ (by first | exact drew_same _ | exact (drew_same _).trans (by simpa using hb))
   all_goals (rw [HF.out]; simp_all [T.textB, T.nB, T.numB])
 · have hd' : ((x.sl : Int) == 0) = false := by simp [hs0]
   clear hs0
   go_enter Tryz.func55, Tryz.ntmps55
   go_wp2_with fail
   go_quiet (fail)
   go_wp2_with (first | fail)
   all_goals go_ret
   all_goals refine FieldsPost.mk' ?_ (by first | exact drew_same _ | exact (drew_same _).trans (by simpa using hb))
   all_goals (rw [HF.out]; simp_all [T.textB, T.nB, T.numB])
set_option maxHeartbeats 4000000 in
theorem fields_rank (t : T) (x : TV) (tb to B : Nat) (w : World) (hr : Rep w B t x) (hat : At w tb to x) (hB : B ≤ w.heap.size) (hk : x.kind = 42) :
   Calls Tryz.prog 55 #[.pointer (some ⟨tb, to, none⟩)] w (FieldsPost t w) := by
 obtain ⟨t0, t1, t2, t3, t4, t5⟩ := hat
 clear t5
 have hwee := hr.wee
 have hts : x.text.size ≤ maxLen := by have := hwee.ts; unfold maxLen; omega
 have hsl : x.sl ≤ 17592186044416 := hwee.s1
 have hal : x.al ≤ 17592186044416 := hwee.a1
 have hfe : t.fields = (T.textB 42 x.text.data.toList && T.nB 42 x.n && T.numB 42 t.shape t.atoms) := by
   rw [T.fields_eq, ← hr.kind, ← hr.text, ← hr.n, hk]
 rw [show T.textB 42 x.text.data.toList = x.text.toList.isEmpty from T.textB_else (by decide) (by decide) (by decide) (by decide)] at hfe
 have HF := hid hfe
 have HS := hid hr.shape
 have HA := hid hr.atoms
 clear hfe hr
 have HK := hid hk
 rw [hk] at t0
 clear hk
 by_cases hs0 : x.sl = 0
 · have hd' : ((x.sl : Int) == 0) = true := by simp [hs0]
   clear hs0
   go_enter Tryz.func55, Tryz.ntmps55
   go_wp2_with fail
   go_quiet (fail)
   go_wp2_with (first | (go_at_call 88; refine (ranks_calls _ _ _ _ _ _ B t.shape t.atoms _ (HS.out.keep (keeps_drewN _ _ _)) (HA.out.keep (keeps_drewN _ _ _)) (by simpa using hB) hsl hal).mono ?_; rintro e w1 ⟨rfl, hb⟩))
   all_goals go_ret
   all_goals refine FieldsPost.mk' ?_ (by first | exact drew_same _ | exact (drew_same _).trans (by simpa using hb))
   all_goals (rw [HF.out]; simp_all [T.textB, T.nB, T.numB])
 · have hd' : ((x.sl : Int) == 0) = false := by simp [hs0]
   clear hs0
   go_enter Tryz.func55, Tryz.ntmps55
   go_wp2_with fail
   go_quiet (fail)
   go_wp2_with (first | (go_at_call 88; refine (ranks_calls _ _ _ _ _ _ B t.shape t.atoms _ (HS.out.keep (keeps_drewN _ _ _)) (HA.out.keep (keeps_drewN _ _ _)) (by simpa using hB) hsl hal).mono ?_; rintro e w1 ⟨rfl, hb⟩))
   all_goals go_ret
   all_goals refine FieldsPost.mk' ?_ (by first | exact drew_same _ | exact (drew_same _).trans (by simpa using hb))
   all_goals (rw [HF.out]; simp_all [T.textB, T.nB, T.numB])
set_option maxHeartbeats 4000000 in
theorem fields_else (t : T) (x : TV) (tb to B : Nat) (w : World) (hr : Rep w B t x) (hat : At w tb to x) (hB : B ≤ w.heap.size) (n1 : x.kind ≠ 1) (n2 : x.kind ≠ 2) (n11 : x.kind ≠ 11) (n20 : x.kind ≠ 20) (n21 : x.kind ≠ 21) (n23 : x.kind ≠ 23) (n42 : x.kind ≠ 42) :
   Calls Tryz.prog 55 #[.pointer (some ⟨tb, to, none⟩)] w (FieldsPost t w) := by
 obtain ⟨t0, t1, t2, t3, t4, t5⟩ := hat
 clear t5
 have hwee := hr.wee
 have hts : x.text.size ≤ maxLen := by have := hwee.ts; unfold maxLen; omega
 have hsl : x.sl ≤ 17592186044416 := hwee.s1
 have hal : x.al ≤ 17592186044416 := hwee.a1
 have hfe : t.fields = (T.textB x.kind x.text.data.toList && T.nB x.kind x.n && T.numB x.kind t.shape t.atoms) := by
   rw [T.fields_eq, ← hr.kind, ← hr.text, ← hr.n]
 rw [show T.textB x.kind x.text.data.toList = x.text.toList.isEmpty from T.textB_else n2 n11 n20 n21] at hfe
 rw [show T.numB x.kind t.shape t.atoms = _ from numB_else n1 n42 hr.shape.1 hr.atoms.1] at hfe
 rw [show T.nB x.kind x.n = (x.n == 0) from by simp [T.nB, n23]] at hfe
 have HF := hid hfe
 have HS := hid hr.shape
 have HA := hid hr.atoms
 clear hfe hr
 by_cases hs0 : x.sl = 0
 · have hd' : ((x.sl : Int) == 0) = true := by simp [hs0]
   clear hs0
   go_enter Tryz.func55, Tryz.ntmps55
   go_wp2_with fail
   go_quiet (fail)
   go_wp2_with (first | fail)
   all_goals go_ret
   all_goals refine FieldsPost.mk' ?_ (by first | exact drew_same _ | exact (drew_same _).trans (by simpa using hb))
   all_goals (rw [HF.out]; simp_all [T.textB, T.nB, T.numB])
 · have hd' : ((x.sl : Int) == 0) = false := by simp [hs0]
   clear hs0
   go_enter Tryz.func55, Tryz.ntmps55
   go_wp2_with fail
   go_quiet (fail)
   go_wp2_with (first | fail)
   all_goals go_ret
   all_goals refine FieldsPost.mk' ?_ (by first | exact drew_same _ | exact (drew_same _).trans (by simpa using hb))
   all_goals (rw [HF.out]; simp_all [T.textB, T.nB, T.numB])
theorem fields_calls (t : T) (x : TV) (tb to B : Nat) (w : World) (hr : Rep w B t x) (hat : At w tb to x) (hB : B ≤ w.heap.size) :
   Calls Tryz.prog 55 #[.pointer (some ⟨tb, to, none⟩)] w (FieldsPost t w) := by
 by_cases h1 : x.kind = 1
 · exact fields_num t x tb to B w hr hat hB h1
 by_cases h2 : x.kind = 2
 · exact fields_name t x tb to B w hr hat hB h2
 by_cases h3 : x.kind = 11
 · exact fields_set t x tb to B w hr hat hB h3
 by_cases h4 : x.kind = 20
 · exact fields_prim t x tb to B w hr hat hB h4
 by_cases h5 : x.kind = 21
 · exact fields_vname t x tb to B w hr hat hB h5
 by_cases h6 : x.kind = 23
 · exact fields_def t x tb to B w hr hat hB h6
 by_cases h7 : x.kind = 42
 · exact fields_rank t x tb to B w hr hat hB h7
 exact fields_else t x tb to B w hr hat hB h1 h2 h3 h4 h5 h6 h7
end Go.Proofs.YtpfkhdlnjefikaaGreatDoor
