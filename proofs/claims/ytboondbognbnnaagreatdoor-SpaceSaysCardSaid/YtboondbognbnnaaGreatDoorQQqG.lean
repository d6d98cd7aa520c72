/- Package print: written's deferred function. Package print: written. Package print: written, a term that may be. -/
import Derived.Test.YtboondbognbnnaaGreatDoorQQqA
import Derived.Defers
import Derived.Recover
import Derived.Laws.Pointers
import Derived.Test.YtboondbognbnnaaGreatDoorQQqF
import Derived.Laws.Rows
set_option linter.unusedVariables false
set_option linter.unusedSimpArgs false
namespace Go.Proofs.YtboondbognbnnaaGreatDoor
open Go.RowKit
theorem assert_too (w : World) : (Instr.typeAssert (.iface 138 (.agg #[])) 20 138 true).run Tryz.prog w = .ok (.tuple #[.agg #[], .bool true]) w := by kernel_rfl
set_option maxRecDepth 100000 in
/-- nothing to recover -/
theorem catchW_idle (p q : Nat) (w : World) :
    CallsD Tryz.prog 77 #[.pointer (some ⟨p, 0, none⟩), .pointer (some ⟨q, 0, none⟩)] .returning w fun e u' w' => e = .returned (.tuple #[]) ∧ u' = .returning ∧ Below w.heap.size w w' := by
  refine callsD_of_wpS Tryz.func77 rfl fun c₀ cs hu => ?_
  apply wpS_seq
  apply wpS_region
  simp [wpOpsS, go_sem, recoverD, hu, Tryz.ntmps77, Exit.thenS]
  apply wpS_seq
  apply wpS_region
  simp [wpOpsS, go_sem, Exit.thenS]
  refine wpS_cond (t := false) (by simp [Act.eval, Array.replicate]) ?_
  simp only [Bool.false_eq_true, if_false]
  refine wpS_of_wp (wp_skip ?_)
  cases c₀
  simp_all [bodyPostS, results, Tryz.results77]
  exact Below.refl _ _
set_option maxRecDepth 100000 in
theorem catchW_too (p q : Nat) (older : List PanicEntry) (w : World) (x y : Value) (hpq : ¬ p = q) (hqp : ¬ q = p) (hp : w.cell? ⟨p, 0, none⟩ = some x) (hpf : w.frozen? ⟨p, 0, none⟩ = false) (hq : w.cell? ⟨q, 0, none⟩ = some y) (hqf : w.frozen? ⟨q, 0, none⟩ = false) :
    CallsD Tryz.prog 77 #[.pointer (some ⟨p, 0, none⟩), .pointer (some ⟨q, 0, none⟩)] (.panicking (tooE :: older)) w fun e u' w' => e = .returned (.tuple #[]) ∧ u' = .panicking ({ v := .iface 138 (.agg #[]), recovered := true } :: older) ∧ Below w.heap.size ((w.setCell ⟨p, 0, none⟩ (.string ⟨#[]⟩)).setCell ⟨q, 0, none⟩ (.int .i64 2)) w' := by
  unfold tooE
  refine callsD_of_wpS Tryz.func77 rfl fun c₀ cs hu => ?_
  apply wpS_seq
  apply wpS_region
  simp [wpOpsS, go_sem, recoverD, hu, Tryz.ntmps77, Exit.thenS]
  apply wpS_seq
  apply wpS_region
  simp [wpOpsS, go_sem, Exit.thenS]
  refine wpS_cond (t := true) (by simp [Act.eval, Array.replicate]) ?_
  simp only [if_true]
  have hpl : p < w.heap.size := World.block_lt_of_cell? _ _ hp
  have hql : q < w.heap.size := World.block_lt_of_cell? _ _ hq
  refine wpS_of_wp ?_
  have hat := assert_too
  simp only [Array.replicate, List.replicate, List.setIfInBounds_toArray, List.set_cons_zero, List.set_cons_succ, List.append_toArray, List.cons_append, List.nil_append]
  go_wp2_with fail
  clear hat
  cases c₀
  simp_all [bodyPostS, results, Tryz.results77]
  exact (Below.refl _ _).alloc (by simp [World.setCell]) _
end Go.Proofs.YtboondbognbnnaaGreatDoor

namespace Go.Proofs.YtboondbognbnnaaGreatDoor
open Go.RowKit
/-- term.May's contract at every later world -/
def MayAt (x : TV) (c m : Int) (w : World) : Prop := ∀ W, Below w.heap.size w W → Calls Tryz.prog 12 #[x.val, .int .i64 c] W fun e w' => e = .returned (.int .i64 m) ∧ Below W.heap.size W w'
/-- what written answers -/
def PWr (w : World) (m : Int) (out : List UInt8) (e : Ending) (w' : World) : Prop :=
  e = .returned (.tuple #[.string (if m = 0 ∧ out.length ≤ 1048576 then ⟨out.toArray⟩ else ⟨#[]⟩), .int .i64 (if m = 0 then (if out.length ≤ 1048576 then 0 else 2) else m)]) ∧ Below w.heap.size w w'
/-- the three blocks of written: the term, the two results -/
structure Trio (w : World) (x : TV) (s : ByteArray) (e : Int) (W : World) : Prop where
  b0 : W.heap[w.heap.size]? = some (.cells x.cells 29 (0, 0))
  b1 : Box1 (w.heap.size + 1) (.string s) 9 W
  b2 : Box1 (w.heap.size + 1 + 1) (.int .i64 e) 35 W
  below : Below w.heap.size w W
theorem Trio.later {w W W' : World} {x : TV} {s : ByteArray} {e : Int} (h : Trio w x s e W) (hb : Below W.heap.size W W') : Trio w x s e W' :=
  ⟨(hb.block _ (by have := h.b2.lt; omega)).trans h.b0, h.b1.later hb, h.b2.later hb, h.below.trans (hb.mono h.below.size)⟩
theorem Trio.new (w : World) (x : TV) : Trio w x ⟨#[]⟩ 0 (((w.alloc (.cells x.cells 29)).alloc (.cells #[.string ⟨#[]⟩] 9)).alloc (.cells #[.int .i64 0] 35)) := by
  have a1 := (Below.refl w.heap.size w).alloc (Nat.le_refl _) (.cells x.cells 29)
  have e1 : (w.alloc (.cells x.cells 29)).heap.size = w.heap.size + 1 := by simp
  have e2 : ((w.alloc (.cells x.cells 29)).alloc (.cells #[.string ⟨#[]⟩] 9)).heap.size = w.heap.size + 1 + 1 := by simp
  have n1 := (Below.refl _ (w.alloc (.cells x.cells 29))).alloc (Nat.le_refl _) (.cells #[.string ⟨#[]⟩] 9)
  have n2 := (Below.refl _ ((w.alloc (.cells x.cells 29)).alloc (.cells #[.string ⟨#[]⟩] 9))).alloc (Nat.le_refl _) (.cells #[.int .i64 0] 35)
  have h0 : (w.alloc (.cells x.cells 29)).heap[w.heap.size]? = some (.cells x.cells 29 (0, 0)) := heap_alloc_new w _
  have g1 := Box1.new (w.alloc (.cells x.cells 29)) (.string ⟨#[]⟩) 9
  have g2 := Box1.new ((w.alloc (.cells x.cells 29)).alloc (.cells #[.string ⟨#[]⟩] 9)) (.int .i64 0) 35
  rw [e1] at g1 n1
  rw [e2] at g2 n2
  refine ⟨(n2.block _ (by omega)).trans ((n1.block _ (by omega)).trans h0), ?_, g2, ?_⟩
  · exact (n2.block _ (by omega)).trans g1
  · exact (a1.trans (n1.mono (by omega))).trans (n2.mono (by omega))
section
variable {w W : World} {x : TV} {s : ByteArray} {e : Int} (h : Trio w x s e W)
include h
theorem Trio.at_ : At W w.heap.size 0 x := by
  have k := h.b0
  refine ⟨?_, ?_, ?_, ?_, ?_, ?_⟩ <;> (rw [Lib.cell_of_heap k]; rfl)
theorem Trio.c1 : W.cell? ⟨w.heap.size + 1, 0, none⟩ = some (.string s) := h.b1.cell
theorem Trio.c2 : W.cell? ⟨w.heap.size + 1 + 1, 0, none⟩ = some (.int .i64 e) := h.b2.cell
theorem Trio.f1 : W.frozen? ⟨w.heap.size + 1, 0, none⟩ = false := Lib.frozen_of_heap h.b1 0
theorem Trio.f2 : W.frozen? ⟨w.heap.size + 1 + 1, 0, none⟩ = false := Lib.frozen_of_heap h.b2 0
theorem Trio.set (s' : ByteArray) (e' : Int) : Trio w x s' e' ((W.setCell ⟨w.heap.size + 1, 0, none⟩ (.string s')).setCell ⟨w.heap.size + 1 + 1, 0, none⟩ (.int .i64 e')) := by
  have n1 := Below.heap_setCell W ⟨w.heap.size + 1, 0, none⟩ (.string s')
  have n2 := Below.heap_setCell (W.setCell ⟨w.heap.size + 1, 0, none⟩ (.string s')) ⟨w.heap.size + 1 + 1, 0, none⟩ (.int .i64 e')
  have l1 := h.b1.lt
  have l2 := h.b2.lt
  refine ⟨?_, ?_, ?_, (h.below.setCell (p := ⟨w.heap.size + 1, 0, none⟩) (by simp) _).setCell (p := ⟨w.heap.size + 1 + 1, 0, none⟩) (by simp; omega) _⟩
  · rw [n2 _ (by simp; omega), n1 _ (by simp)]; exact h.b0
  · exact (n2 _ (by simp)).trans (Go.heap_setCell_same _ (w.heap.size + 1) 0 _ _ _ h.b1)
  · exact Go.heap_setCell_same _ (w.heap.size + 1 + 1) 0 _ _ _ ((n1 _ (by simp)).trans h.b2)
end
set_option maxRecDepth 100000 in
set_option maxHeartbeats 4000000 in
theorem written_no {x : TV} {w : World} {c m : Int} {j : FuncId} {out : List UInt8} (hm : MayAt x c m w) (h0 : m ≠ 0) :
    Calls Tryz.prog 53 #[x.val, .int .i64 c, fn j #[]] w (PWr w m out) := by
  have T0 := Lib.hid (Trio.new w x)
  generalize hw3 : ((w.alloc (.cells x.cells 29)).alloc (.cells #[.string ⟨#[]⟩] 9)).alloc (.cells #[.int .i64 0] 35) = w3 at T0
  have HW3 := Lib.hid hw3
  have HM := Lib.hid hm
  have HP : PWr w m out = fun e w' => e = .returned (.tuple #[.string ⟨#[]⟩, .int .i64 m]) ∧ Below w.heap.size w w' := by
    unfold PWr; simp only [h0, false_and, if_false]
  rw [HP]
  have hb0 : (m != 0) = true := by simp [h0]
  clear hw3 hm HP h0
  unfold TV.cells at HW3
  unfold MayAt at HM
  unfold TV.val TV.cells
  unfold TV.val TV.cells at HM
  go_enter_defers Tryz.func53, Tryz.ntmps53
  go_upto_region 1 with fail
  rw [HW3.out]
  have k0 := T0.out.at_
  obtain ⟨c0, c1, c2, c3, c4, c5⟩ := k0
  have r1 := T0.out.c1
  have r2 := T0.out.c2
  go_upto_region 2 with (go_at_call 12; refine (HM.out _ T0.out.below).mono ?_; rintro e w4 ⟨rfl, hb⟩)
  have T4 := Lib.hid (T0.out.later hb)
  clear hb r1 r2 c0 c1 c2 c3 c4 c5
  have r1 := T4.out.c1
  have r2 := T4.out.c2
  have f1 := T4.out.f1
  have f2 := T4.out.f2
  go_wp2_with fail
  have T5 := Lib.hid (T4.out.set ⟨#[]⟩ m)
  generalize World.setCell (World.setCell w4 _ _) _ _ = w5 at *
  clear r1 r2 f1 f2
  have r1 := T5.out.c1
  have r2 := T5.out.c2
  have f1 := T5.out.f1
  have f2 := T5.out.f2
  refine ⟨.tuple #[.string ⟨#[]⟩, .int .i64 m], by simp [results, Tryz.results53, r1, r2, f1, f2, go_sem], ?_⟩
  exact ⟨rfl, T5.out.below⟩
end Go.Proofs.YtboondbognbnnaaGreatDoor

namespace Go.Proofs.YtboondbognbnnaaGreatDoor
open Go.RowKit
theorem settle_calm {v : Value} {qs : List PanicEntry} (h : Calm qs) : settle (.panicking ({ v := v, recovered := true } :: qs)) = .returning := by
  have e : qs.dropWhile (!·.goexit) = [] := by
    clear v
    induction qs with
    | nil => rfl
    | cons p r ih =>
      have hp : p.goexit = false := h p (List.mem_cons_self ..)
      rw [List.dropWhile_cons_of_pos (by simp [hp])]
      exact ih fun q hq => h q (List.mem_cons_of_mem _ hq)
  simp [settle, e]
theorem Trio.past {w W W' : World} {x : TV} {s : ByteArray} {e : Int} {B : Nat} (h : Trio w x s e W) (hb : Below B W W') (hB : w.heap.size + 1 + 1 < B) : Trio w x s e W' :=
  ⟨(hb.block _ (by omega)).trans h.b0, (hb.block _ (by omega)).trans h.b1, (hb.block _ (by omega)).trans h.b2, h.below.trans (hb.mono (by omega))⟩
set_option maxRecDepth 100000 in
set_option maxHeartbeats 4000000 in
theorem written_yes {t : T} {x : TV} {w : World} {c : Int} {j : FuncId} {out : List UInt8} (hr : Rep w w.heap.size t x) (hm : MayAt x c 0 w) (hj : ∀ a w, (callFunc j a).run Tryz.prog w = .ok (.enter j a) w) (hP : PutsAt j t out) (hne : out ≠ []) (hT : Tabs w.heap.size w) :
    Calls Tryz.prog 53 #[x.val, .int .i64 c, fn j #[]] w (PWr w 0 out) := by
  have hmf : ∀ (fn : Fn) (first cap : Array Value) (w : World), (Instr.makeFunc fn first cap).run Tryz.prog w = .ok (.func fn first cap) w := fun _ _ _ _ => rfl
  have T0 := Lib.hid (Trio.new w x)
  generalize hw3 : ((w.alloc (.cells x.cells 29)).alloc (.cells #[.string ⟨#[]⟩] 9)).alloc (.cells #[.int .i64 0] 35) = w3 at T0
  have HW3 := Lib.hid hw3
  have HM := Lib.hid hm
  have HR := Lib.hid hr
  have HPt := Lib.hid hP
  have HT := Lib.hid hT
  have HNe := Lib.hid hne
  obtain ⟨P0, hP0⟩ : ∃ P0, P0 = PWr w 0 out := ⟨_, rfl⟩
  rw [← hP0]
  have HP0 := Lib.hid hP0
  clear hw3 hm hr hP hT hne hP0
  unfold TV.cells at HW3
  unfold MayAt at HM
  unfold TV.val TV.cells
  unfold TV.val TV.cells at HM
  go_enter_defers Tryz.func53, Tryz.ntmps53
  go_upto_region 1 with fail
  rw [HW3.out]
  have k0 := T0.out.at_
  obtain ⟨c0, c1, c2, c3, c4, c5⟩ := k0
  have r1 := T0.out.c1
  have r2 := T0.out.c2
  go_upto_region 2 with (go_at_call 12; refine (HM.out _ T0.out.below).mono ?_; rintro e w4 ⟨rfl, hb⟩)
  have T4 := Lib.hid (T0.out.later hb)
  clear hb r1 r2 c0 c1 c2 c3 c4 c5 T0 HW3 HM
  go_upto_region 6 with fail
  have hlt := T4.out.b2.lt
  have hA := (Below.refl w4.heap.size w4).alloc (Nat.le_refl _) (.cells #[.pointer none, .slice none 0 0] WT)
  have T5 := Lib.hid (T4.out.later hA)
  have hW : Wr w4.heap.size w4.heap.size [] (w4.alloc (.cells #[.pointer none, .slice none 0 0] WT)) := Lib.fresh_isBuilder WT 5 w4
  have hB5 : w4.heap.size ≤ (w4.alloc (.cells #[.pointer none, .slice none 0 0] WT)).heap.size := by simp
  generalize (w4.alloc (.cells #[.pointer none, .slice none 0 0] WT)) = w5 at *
  generalize w4.heap.size = b at *
  have HTa : TAt b t w.heap.size 0 x w5 := ⟨T5.out.at_, by omega, Rep.mono (by omega) t x (HR.out.below T5.out.below (Nat.le_refl _))⟩
  have HTb : Tabs b w5 := fun w' h' => HT.out w' (T5.out.below.trans (h'.mono (by omega)))
  have HC := Lib.hid (HPt.out b b w.heap.size 0 x [] w5 HTa hW (by simp) hB5 HTb)
  have HLt := Lib.hid hlt
  clear hA hW HTa HTb hB5
  go_wp2_with fail
  refine HC.out.mono ?_
  intro e w6 hp
  rcases hp.two with ⟨rfl, h⟩ | ⟨ps, rfl, h⟩
  · have hfit : out.length ≤ 1048576 := by have := h.le; simpa using this
    have T6 := Lib.hid (T5.out.past h.below HLt.out)
    have HS := Lib.hid (string_calls b b out w6 (show Wr b b out w6 from by have := h.box; simpa using this) HNe.out)
    have HF := Lib.hid hfit
    clear hp h hfit
    have r1 := T6.out.c1
    have r2 := T6.out.c2
    go_wp2_with fail
    refine HS.out.mono ?_
    rintro e w7 ⟨rfl, hb⟩
    have T7 := Lib.hid (T6.out.past hb HLt.out)
    clear hb r1 r2
    have r1 := T7.out.c1
    have r2 := T7.out.c2
    have f1 := T7.out.f1
    have f2 := T7.out.f2
    go_wp2_with fail
    have T8 := Lib.hid (T7.out.set ⟨out.toArray⟩ 0)
    generalize World.setCell (World.setCell w7 _ _) _ _ = w8 at *
    clear r1 r2 f1 f2
    refine leaves_cons (f := 77) (args := #[.pointer (some ⟨w.heap.size + 1, 0, none⟩), .pointer (some ⟨w.heap.size + 1 + 1, 0, none⟩)]) (by simp) (by simp [go_sem]) ?_
    refine (catchW_idle _ _ _).mono ?_
    rintro e u' w9 ⟨rfl, rfl, hb9⟩
    have T9 := Lib.hid (T8.out.later hb9)
    have r1 := T9.out.c1
    have r2 := T9.out.c2
    have f1 := T9.out.f1
    have f2 := T9.out.f2
    refine ⟨.tuple #[.string ⟨out.toArray⟩, .int .i64 0], by simp [results, Tryz.results53, r1, r2, f1, f2, go_sem], ?_⟩
    rw [HP0.out]
    exact ⟨by rw [if_pos ⟨rfl, HF.out⟩, if_pos rfl, if_pos HF.out], T9.out.below⟩
  · have hfit : ¬ out.length ≤ 1048576 := by have := h.gt; simp at this; omega
    obtain ⟨qs, l', rfl, _, _, hq⟩ := h.box
    have HQs := Lib.hid hq
    have T7 := Lib.hid (T5.out.past h.below HLt.out)
    have HF := Lib.hid hfit
    clear hp h hfit hq
    refine leaves_cons (f := 77) (args := #[.pointer (some ⟨w.heap.size + 1, 0, none⟩), .pointer (some ⟨w.heap.size + 1 + 1, 0, none⟩)]) (by simp) (by simp [go_sem]) ?_
    refine (catchW_too (w.heap.size + 1) (w.heap.size + 1 + 1) qs w6 (.string ⟨#[]⟩) (.int .i64 0) (by omega) (by omega) T7.out.c1 T7.out.f1 T7.out.c2 T7.out.f2).mono ?_
    rintro e u' w9 ⟨rfl, rfl, hb9⟩
    have T9 := Lib.hid ((T7.out.set ⟨#[]⟩ 2).later (by simpa [World.setCell] using hb9))
    have r1 := T9.out.c1
    have r2 := T9.out.c2
    have f1 := T9.out.f1
    have f2 := T9.out.f2
    dsimp only
    rw [settle_calm HQs.out]
    refine ⟨.tuple #[.string ⟨#[]⟩, .int .i64 2], by simp [results, Tryz.results53, r1, r2, f1, f2, go_sem], ?_⟩
    rw [HP0.out]
    exact ⟨by rw [if_neg (fun hh => HF.out hh.2), if_pos rfl, if_neg HF.out], T9.out.below⟩
end Go.Proofs.YtboondbognbnnaaGreatDoor
