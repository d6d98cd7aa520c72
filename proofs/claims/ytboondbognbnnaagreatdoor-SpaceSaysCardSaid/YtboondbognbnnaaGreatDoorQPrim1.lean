/- Package prim: an entry. -/
import Derived.Test.YtboondbognbnnaaGreatDoorQTermC6
import Derived.Laws.EntriesVeiled
import Derived.Handy
import Derived.Outline
set_option linter.unusedVariables false
set_option linter.unusedSimpArgs false
namespace Go.Proofs.YtboondbognbnnaaGreatDoor
open Go.RowKit

theorem neqM_nil (w : World) : (binOp .neq 186 .nilFunc .nilFunc).run Tryz.prog w = .ok (.bool false) w := by kernel_rfl
theorem neqM_func (k : Nat) (w : World) : (binOp .neq 186 (.func (.func k) #[] #[]) .nilFunc).run Tryz.prog w = .ok (.bool true) w := by kernel_rfl
theorem neqD_nil (w : World) : (binOp .neq 187 .nilFunc .nilFunc).run Tryz.prog w = .ok (.bool false) w := by kernel_rfl
theorem neqD_func (k : Nat) (w : World) : (binOp .neq 187 (.func (.func k) #[] #[]) .nilFunc).run Tryz.prog w = .ok (.bool true) w := by kernel_rfl

/-- an entry's cells: what is told (spelling, monad, dyad, three ranks, identity, has, commutes), the number, what it does -/
def entryOf (s : ByteArray) (m d : Bool) (r0 r1 r2 : Int) (id : Int) (has com : Bool) (op : Int) (fm fd : Value) : Array Value :=
  #[.string s, .bool m, .bool d, .int .i64 r0, .int .i64 r1, .int .i64 r2, .int .i64 id, .bool has, .bool com, .int .i64 op, fm, fd]

/-- a function's value: nil, or a function by its number -/
def FnV (o : Option Nat) : Value := match o with | none => .nilFunc | some k => .func (.func k) #[] #[]

set_option maxHeartbeats 1000000 in
theorem both_calls (s : ByteArray) (m d : Bool) (r0 r1 r2 id : Int) (has com : Bool) (op : Int) (fm fd : Option Nat) (w : World) :
    Calls Tryz.prog 164 #[.agg (entryOf s m d r0 r1 r2 id has com op (FnV fm) (FnV fd))] w fun e w' => e = .returned (.agg (entryOf s m d r0 r1 r2 id has true op (FnV fm) (FnV fd))) ∧ Below w.heap.size w w' := by
  simp only [entryOf]
  cases fm <;> cases fd <;> simp only [FnV]
  all_goals
    go_enter Tryz.func164, Tryz.ntmps164
    go_wp2_with fail
    go_returns
    exact ⟨rfl, by go_grown⟩

set_option maxHeartbeats 1000000 in
theorem with_calls (s : ByteArray) (m d : Bool) (r0 r1 r2 id : Int) (has com : Bool) (op : Int) (fm fd : Option Nat) (n : Int) (w : World) :
    Calls Tryz.prog 163 #[.agg (entryOf s m d r0 r1 r2 id has com op (FnV fm) (FnV fd)), .int .i64 n] w fun e w' => e = .returned (.agg (entryOf s m d r0 r1 r2 n true com op (FnV fm) (FnV fd))) ∧ Below w.heap.size w w' := by
  simp only [entryOf]
  cases fm <;> cases fd <;> simp only [FnV]
  all_goals
    go_enter Tryz.func163, Tryz.ntmps163
    go_wp2_with fail
    go_returns
    exact ⟨rfl, by go_grown⟩

set_option maxHeartbeats 1000000 in
theorem made_calls (op : Int) (s : ByteArray) (fm : Option Nat) (m : Int) (fd : Option Nat) (l r : Int) (w : World) :
    Calls Tryz.prog 162 #[.int .i64 op, .string s, FnV fm, .int .i64 m, FnV fd, .int .i64 l, .int .i64 r] w fun e w' => e = .returned (.agg (entryOf s fm.isSome fd.isSome m l r 0 false false op (FnV fm) (FnV fd))) ∧ Below w.heap.size w w' := by
  have n1 := neqM_nil
  have n2 := neqM_func
  have n3 := neqD_nil
  have n4 := neqD_func
  simp only [entryOf]
  cases fm <;> cases fd <;> simp only [FnV]
  all_goals
    go_enter Tryz.func162, Tryz.ntmps162
    go_wp2_with fail
    go_returns
    exact ⟨rfl, by go_grown⟩

/-- a function's value: nil, or a function by its number -/
def IsFn (v : Value) : Prop := v = .nilFunc ∨ ∃ k, v = .func (.func k) #[] #[]
def notNilF (v : Value) : Bool := match v with | .nilFunc => false | _ => true
theorem IsFn.out {v : Value} (h : IsFn v) : ∃ o, v = FnV o ∧ notNilF v = o.isSome := by
  rcases h with rfl | ⟨k, rfl⟩
  · exact ⟨none, rfl, rfl⟩
  · exact ⟨some k, rfl, rfl⟩
/-- a call, told from a base below which nothing has turned -/
theorem rel_calls {P : Program} {f : FuncId} {args : Array Value} {w w0 : World} {B : Nat} {v : Value} (h : Calls P f args w fun e w' => e = .returned v ∧ Below w.heap.size w w') (hb : Below B w0 w) (hB : B ≤ w.heap.size) :
    Calls P f args w fun e w' => e = .returned v ∧ Below B w0 w' ∧ B ≤ w'.heap.size :=
  h.mono fun _ _ ⟨h1, h2⟩ => ⟨h1, hb.trans (h2.mono hB), Nat.le_trans hB h2.size⟩
theorem made_rel {w w0 : World} {B : Nat} (hb : Below B w0 w) (hB : B ≤ w.heap.size) {op : Int} {s : ByteArray} {fm fd : Value} {m l r : Int} (h1 : IsFn fm) (h2 : IsFn fd) :
    Calls Tryz.prog 162 #[.int .i64 op, .string s, fm, .int .i64 m, fd, .int .i64 l, .int .i64 r] w fun e w' => e = .returned (.agg (entryOf s (notNilF fm) (notNilF fd) m l r 0 false false op fm fd)) ∧ Below B w0 w' ∧ B ≤ w'.heap.size := by
  obtain ⟨o1, rfl, e1⟩ := h1.out
  obtain ⟨o2, rfl, e2⟩ := h2.out
  rw [e1, e2]
  exact rel_calls (made_calls op s o1 m o2 l r w) hb hB
theorem with_rel {w w0 : World} {B : Nat} (hb : Below B w0 w) (hB : B ≤ w.heap.size) {s : ByteArray} {m d : Bool} {r0 r1 r2 id : Int} {has com : Bool} {op : Int} {fm fd : Value} {n : Int} (h1 : IsFn fm) (h2 : IsFn fd) :
    Calls Tryz.prog 163 #[.agg (entryOf s m d r0 r1 r2 id has com op fm fd), .int .i64 n] w fun e w' => e = .returned (.agg (entryOf s m d r0 r1 r2 n true com op fm fd)) ∧ Below B w0 w' ∧ B ≤ w'.heap.size := by
  obtain ⟨o1, rfl, e1⟩ := h1.out
  obtain ⟨o2, rfl, e2⟩ := h2.out
  exact rel_calls (with_calls s m d r0 r1 r2 id has com op o1 o2 n w) hb hB
theorem both_rel {w w0 : World} {B : Nat} (hb : Below B w0 w) (hB : B ≤ w.heap.size) {s : ByteArray} {m d : Bool} {r0 r1 r2 id : Int} {has com : Bool} {op : Int} {fm fd : Value} (h1 : IsFn fm) (h2 : IsFn fd) :
    Calls Tryz.prog 164 #[.agg (entryOf s m d r0 r1 r2 id has com op fm fd)] w fun e w' => e = .returned (.agg (entryOf s m d r0 r1 r2 id has true op fm fd)) ∧ Below B w0 w' ∧ B ≤ w'.heap.size := by
  obtain ⟨o1, rfl, e1⟩ := h1.out
  obtain ⟨o2, rfl, e2⟩ := h2.out
  exact rel_calls (both_calls s m d r0 r1 r2 id has com op o1 o2 w) hb hB
theorem isFn_nil : IsFn .nilFunc := .inl rfl
theorem isFn_func (k : Nat) : IsFn (.func (.func k) #[] #[]) := .inr ⟨k, rfl⟩
end Go.Proofs.YtboondbognbnnaaGreatDoor
