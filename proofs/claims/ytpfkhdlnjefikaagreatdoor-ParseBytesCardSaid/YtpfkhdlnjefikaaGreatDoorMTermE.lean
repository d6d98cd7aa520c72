/- Package term: good, May. -/
import Derived.Test.YtpfkhdlnjefikaaGreatDoorMTermD
import Derived.Test.YtpfkhdlnjefikaaGreatDoorMPureA
set_option linter.unusedVariables false
set_option linter.unusedSimpArgs false
namespace Go.Proofs.YtpfkhdlnjefikaaGreatDoor
open Go.RowKit
/-- the contract of good -/
def GoodPost (t : T) (al : Bool) (w : World) (e : Ending) (w' : World) : Prop := e = .returned (.bool (T.good t al)) ∧ Below w.heap.size w w'
theorem GoodPost.mk' {t : T} {al b : Bool} {w w' : World} (h : b = T.good t al) (hb : Below w.heap.size w w') : GoodPost t al w (.returned (.bool b)) w' := ⟨by rw [h], hb⟩
def GoodAll (t : T) : Prop := ∀ (x : TV) (tb to B : Nat) (al : Bool) (w : World), Rep w B t x → At w tb to x → B ≤ w.heap.size →
 Calls Tryz.prog 31 #[.pointer (some ⟨tb, to, none⟩), .bool al] w (GoodPost t al w)
theorem class_known {x : TV} {c : Int} (h : T.cls x.kind = c) (W : World) :
   Calls Tryz.prog 32 #[.agg #[.int .i64 x.kind, .string x.text, .int .i64 x.n, .slice x.sa x.sl x.sc, .slice x.aa x.al x.ac, .slice x.ka x.kl x.kc]] W fun e w' => e = .returned (.int .i64 c) ∧ Below W.heap.size W w' := by
 have := class_calls x W
 rw [h] at this
 exact this
theorem fields_known {t : T} {x : TV} {tb to B : Nat} {v : Bool} (h : t.fields = v) {w W : World} (hr : Rep w B t x) (hat : At w tb to x) (hB : B ≤ w.heap.size) (hb : Below w.heap.size w W) (ht : tb < w.heap.size) :
   Calls Tryz.prog 55 #[.pointer (some ⟨tb, to, none⟩)] W fun e w' => e = .returned (.bool v) ∧ Below W.heap.size W w' := by
 have := fields_calls t x tb to B W (hr.below hb hB) (hat.keep ht (Keeps.of_below hb (Nat.le_refl _))) (Nat.le_trans hB hb.size)
 unfold FieldsPost at this
 rw [h] at this
 exact this
theorem kids_known {t : T} {x : TV} {tb to B : Nat} {v : Bool} (h : t.kidsOk = v) {w W : World} (hr : Rep w B t x) (hat : At w tb to x) (hB : B ≤ w.heap.size) (hb : Below w.heap.size w W) (ht : tb < w.heap.size) :
   Calls Tryz.prog 56 #[.pointer (some ⟨tb, to, none⟩)] W fun e w' => e = .returned (.bool v) ∧ Below W.heap.size W w' := by
 have := kids_calls t x tb to B W (hr.below hb hB) (hat.keep ht (Keeps.of_below hb (Nat.le_refl _))) (Nat.le_trans hB hb.size)
 unfold KidsPost at this
 rw [h] at this
 exact this
theorem T.good_eq (t : T) (al : Bool) : T.good t al = (T.node t al && T.goodL t.kids (T.under t al)) := by
 cases t with
 | mk k s n sh a l => rw [T.good_mk]; rfl
/-- the kids ahead of k are good -/
def goodTill (l : List T) (al : Bool) (k : Nat) : Prop := ∀ i u, i < k → l[i]? = some u → T.good u al = true
theorem goodTill_zero (l : List T) (al : Bool) : goodTill l al 0 := fun i u h => absurd h (by omega)
theorem goodTill_succ {l : List T} {al : Bool} {k : Nat} {u : T} (h : goodTill l al k) (hu : l[k]? = some u) (hi : T.good u al = true) : goodTill l al (k + 1) := by
 intro i v hlt hv
 by_cases e : i = k
 · subst e; rw [hu] at hv; injection hv with hv; subst hv; exact hi
 · exact h i v (by omega) hv
theorem goodTill_all {l : List T} {al : Bool} (h : goodTill l al l.length) : T.goodL l al = true := by
 rw [T.goodL_iff]
 intro u hu
 obtain ⟨i, hi⟩ := List.mem_iff_getElem?.1 hu
 exact h i u (List.getElem?_eq_some_iff.1 hi).1 hi
theorem goodL_false {l : List T} {al : Bool} {k : Nat} {u : T} (hu : l[k]? = some u) (hi : T.good u al = false) : T.goodL l al = false := by
 cases h : T.goodL l al
 · rfl
 · rw [T.goodL_iff] at h
   have := h u (List.mem_of_getElem? hu)
   rw [this] at hi; cases hi
theorem good_known {t : T} (h : GoodAll t) {x : TV} {tb to B : Nat} {al v : Bool} {w : World} (hr : Rep w B t x) (hat : At w tb to x) (hB : B ≤ w.heap.size) (hv : T.good t al = v) :
   Calls Tryz.prog 31 #[.pointer (some ⟨tb, to, none⟩), .bool al] w fun e w' => e = .returned (.bool v) ∧ Below w.heap.size w w' := by
 have := h x tb to B al w hr hat hB
 unfold GoodPost at this
 rw [hv] at this
 exact this
section
variable {t : T} {x : TV} {tb to B : Nat} {al : Bool} {w : World}
set_option maxHeartbeats 1000000 in
theorem good_class (hr : Rep w B t x) (hat : At w tb to x) (hB : B ≤ w.heap.size) (hc : T.cls x.kind = 0) : Calls Tryz.prog 31 #[.pointer (some ⟨tb, to, none⟩), .bool al] w (GoodPost t al w) := by
 have htb := World.block_lt_of_cell? w _ hat.c0
 have HR := hid hr
 have HAT := hid hat
 obtain ⟨t0, t1, t2, t3, t4, t5⟩ := hat
 have HC := hid (class_known (x := x) hc)
 have HCK := hid (show T.cls t.kind = 0 from by rw [← hr.kind]; exact hc)
 clear hc
 clear hr
 go_enter Tryz.func31, Tryz.ntmps31
 go_wp2_with (first | (go_at_call 32; refine (HC.out _).mono ?_; rintro e w1 ⟨rfl, hb1⟩; have B1 := hid hb1; obtain ⟨hc1, hf1⟩ := bcell hb1; have hz1 := hb1.size; clear hb1 hf1) | (go_at_call 55; refine (fields_known HF.out HR.out HAT.out hB B1.out htb).mono ?_; rintro e w2 ⟨rfl, hb2⟩; have B2 := hid (B1.out.trans (hb2.mono B1.out.size)); clear hb2; obtain ⟨hc2, hf2⟩ := bcell B2.out; have hz2 := B2.out.size; clear hf2) | (go_at_call 56; refine (kids_known HK.out HR.out HAT.out hB B2.out htb).mono ?_; rintro e w3 ⟨rfl, hb3⟩; have B3 := hid (B2.out.trans (hb3.mono B2.out.size)); clear hb3; obtain ⟨hc3, hf3⟩ := bcell B3.out; have hz3 := B3.out.size; clear hf3))
 go_ret
 exact GoodPost.mk' (by rw [T.good_eq]; simp [T.node, HCK.out]) B1.out
set_option maxHeartbeats 1000000 in
theorem good_fields (hr : Rep w B t x) (hat : At w tb to x) (hB : B ≤ w.heap.size) {c : Int} (hc : T.cls x.kind = c) (h0 : (c == 0) = false) (hf : t.fields = false) : Calls Tryz.prog 31 #[.pointer (some ⟨tb, to, none⟩), .bool al] w (GoodPost t al w) := by
 have htb := World.block_lt_of_cell? w _ hat.c0
 have HR := hid hr
 have HAT := hid hat
 obtain ⟨t0, t1, t2, t3, t4, t5⟩ := hat
 have HC := hid (class_known (x := x) hc)
 have HF := hid hf
 clear hc hf
 clear hr
 go_enter Tryz.func31, Tryz.ntmps31
 go_wp2_with (first | (go_at_call 32; refine (HC.out _).mono ?_; rintro e w1 ⟨rfl, hb1⟩; have B1 := hid hb1; obtain ⟨hc1, hf1⟩ := bcell hb1; have hz1 := hb1.size; clear hb1 hf1) | (go_at_call 55; refine (fields_known HF.out HR.out HAT.out hB B1.out htb).mono ?_; rintro e w2 ⟨rfl, hb2⟩; have B2 := hid (B1.out.trans (hb2.mono B1.out.size)); clear hb2; obtain ⟨hc2, hf2⟩ := bcell B2.out; have hz2 := B2.out.size; clear hf2) | (go_at_call 56; refine (kids_known HK.out HR.out HAT.out hB B2.out htb).mono ?_; rintro e w3 ⟨rfl, hb3⟩; have B3 := hid (B2.out.trans (hb3.mono B2.out.size)); clear hb3; obtain ⟨hc3, hf3⟩ := bcell B3.out; have hz3 := B3.out.size; clear hf3))
 go_ret
 exact GoodPost.mk' (by rw [T.good_eq]; simp [T.node, HF.out]) B2.out
set_option maxHeartbeats 1000000 in
theorem good_kids (hr : Rep w B t x) (hat : At w tb to x) (hB : B ≤ w.heap.size) {c : Int} (hc : T.cls x.kind = c) (h0 : (c == 0) = false) (hf : t.fields = true) (hk : t.kidsOk = false) : Calls Tryz.prog 31 #[.pointer (some ⟨tb, to, none⟩), .bool al] w (GoodPost t al w) := by
 have htb := World.block_lt_of_cell? w _ hat.c0
 have HR := hid hr
 have HAT := hid hat
 obtain ⟨t0, t1, t2, t3, t4, t5⟩ := hat
 have HC := hid (class_known (x := x) hc)
 have HF := hid hf
 have HK := hid hk
 clear hc hf hk
 clear hr
 go_enter Tryz.func31, Tryz.ntmps31
 go_wp2_with (first | (go_at_call 32; refine (HC.out _).mono ?_; rintro e w1 ⟨rfl, hb1⟩; have B1 := hid hb1; obtain ⟨hc1, hf1⟩ := bcell hb1; have hz1 := hb1.size; clear hb1 hf1) | (go_at_call 55; refine (fields_known HF.out HR.out HAT.out hB B1.out htb).mono ?_; rintro e w2 ⟨rfl, hb2⟩; have B2 := hid (B1.out.trans (hb2.mono B1.out.size)); clear hb2; obtain ⟨hc2, hf2⟩ := bcell B2.out; have hz2 := B2.out.size; clear hf2) | (go_at_call 56; refine (kids_known HK.out HR.out HAT.out hB B2.out htb).mono ?_; rintro e w3 ⟨rfl, hb3⟩; have B3 := hid (B2.out.trans (hb3.mono B2.out.size)); clear hb3; obtain ⟨hc3, hf3⟩ := bcell B3.out; have hz3 := B3.out.size; clear hf3))
 go_ret
 exact GoodPost.mk' (by rw [T.good_eq]; simp [T.node, HK.out]) B3.out
set_option maxHeartbeats 1000000 in
theorem good_x2 (hr : Rep w B t x) (hat : At w tb to x) (hB : B ≤ w.heap.size) {c : Int} (hc : T.cls x.kind = c) (h0 : (c == 0) = false) (hf : t.fields = true) (hk : t.kidsOk = true) (hal : al = true) (hkd : x.kind = 2) (hx : (x.text.toList == [120]) = true) : Calls Tryz.prog 31 #[.pointer (some ⟨tb, to, none⟩), .bool al] w (GoodPost t al w) := by
 have htb := World.block_lt_of_cell? w _ hat.c0
 have HR := hid hr
 have HAT := hid hat
 obtain ⟨t0, t1, t2, t3, t4, t5⟩ := hat
 have HC := hid (class_known (x := x) hc)
 have HF := hid hf
 have HK := hid hk
 have HKD := hid (show t.kind = 2 from by rw [← hr.kind]; exact hkd)
 have HX := hid (show t.text.data.toList = [120] from by rw [← hr.text, ← ByteArray.toList_eq]; simpa using hx)
 clear hc hf hk
 subst hal
 rw [hkd] at t0 HC
 clear hkd
 clear hr
 go_enter Tryz.func31, Tryz.ntmps31
 go_wp2_with (first | (go_at_call 32; refine (HC.out _).mono ?_; rintro e w1 ⟨rfl, hb1⟩; have B1 := hid hb1; obtain ⟨hc1, hf1⟩ := bcell hb1; have hz1 := hb1.size; clear hb1 hf1) | (go_at_call 55; refine (fields_known HF.out HR.out HAT.out hB B1.out htb).mono ?_; rintro e w2 ⟨rfl, hb2⟩; have B2 := hid (B1.out.trans (hb2.mono B1.out.size)); clear hb2; obtain ⟨hc2, hf2⟩ := bcell B2.out; have hz2 := B2.out.size; clear hf2) | (go_at_call 56; refine (kids_known HK.out HR.out HAT.out hB B2.out htb).mono ?_; rintro e w3 ⟨rfl, hb3⟩; have B3 := hid (B2.out.trans (hb3.mono B2.out.size)); clear hb3; obtain ⟨hc3, hf3⟩ := bcell B3.out; have hz3 := B3.out.size; clear hf3))
 go_ret
 exact GoodPost.mk' (by rw [T.good_eq]; simp [T.node, HKD.out, HX.out]) B3.out
set_option maxHeartbeats 1000000 in
theorem good_x11 (hr : Rep w B t x) (hat : At w tb to x) (hB : B ≤ w.heap.size) {c : Int} (hc : T.cls x.kind = c) (h0 : (c == 0) = false) (hf : t.fields = true) (hk : t.kidsOk = true) (hal : al = true) (hkd : x.kind = 11) (hx : (x.text.toList == [120]) = true) : Calls Tryz.prog 31 #[.pointer (some ⟨tb, to, none⟩), .bool al] w (GoodPost t al w) := by
 have htb := World.block_lt_of_cell? w _ hat.c0
 have HR := hid hr
 have HAT := hid hat
 obtain ⟨t0, t1, t2, t3, t4, t5⟩ := hat
 have HC := hid (class_known (x := x) hc)
 have HF := hid hf
 have HK := hid hk
 have HKD := hid (show t.kind = 11 from by rw [← hr.kind]; exact hkd)
 have HX := hid (show t.text.data.toList = [120] from by rw [← hr.text, ← ByteArray.toList_eq]; simpa using hx)
 clear hc hf hk
 subst hal
 rw [hkd] at t0 HC
 clear hkd
 clear hr
 go_enter Tryz.func31, Tryz.ntmps31
 go_wp2_with (first | (go_at_call 32; refine (HC.out _).mono ?_; rintro e w1 ⟨rfl, hb1⟩; have B1 := hid hb1; obtain ⟨hc1, hf1⟩ := bcell hb1; have hz1 := hb1.size; clear hb1 hf1) | (go_at_call 55; refine (fields_known HF.out HR.out HAT.out hB B1.out htb).mono ?_; rintro e w2 ⟨rfl, hb2⟩; have B2 := hid (B1.out.trans (hb2.mono B1.out.size)); clear hb2; obtain ⟨hc2, hf2⟩ := bcell B2.out; have hz2 := B2.out.size; clear hf2) | (go_at_call 56; refine (kids_known HK.out HR.out HAT.out hB B2.out htb).mono ?_; rintro e w3 ⟨rfl, hb3⟩; have B3 := hid (B2.out.trans (hb3.mono B2.out.size)); clear hb3; obtain ⟨hc3, hf3⟩ := bcell B3.out; have hz3 := B3.out.size; clear hf3))
 go_ret
 exact GoodPost.mk' (by rw [T.good_eq]; simp [T.node, HKD.out, HX.out]) B3.out
end
end Go.Proofs.YtpfkhdlnjefikaaGreatDoor
