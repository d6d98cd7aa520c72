/- Package expand: opens. -/
import Derived.Test.YtnnhbpgpkpbinaaGreatExp3
namespace Go.Proofs.YtnnhbpgpkpbinaaGreat
open Go.RowKit Go.WideMaps Go.Maps

/-- what opens a kind, or nil -/
def opener (cb : Nat) (k : Int) : Value := (((openers cb).reverse.find? (fun e => e.1 == k)).map (·.2)).getD .nilFunc
theorem putAllV_gen (k : Int) (z : DataW Value) (l : List (Int × Value)) : ∀ m : DataW Value, IsMap m → (putAllV m l).atKey (.int .i64 k) z = match l.reverse.find? (fun e => e.1 == k) with | some e => .held e.2 | none => m.atKey (.int .i64 k) z := by
  induction l with
  | nil => exact fun m _ => rfl
  | cons e l ih =>
    intro m hm
    have h := ih (m.put (.int .i64 e.1) (.held e.2)) (hm.put _ _)
    show (putAllV (m.put (.int .i64 e.1) (.held e.2)) l).atKey (.int .i64 k) z = _
    rw [h, List.reverse_cons, List.find?_append]
    cases hf : l.reverse.find? (fun e => e.1 == k) with
    | some x => rfl
    | none =>
      by_cases he : e.1 = k
      · subst he
        simp [atKey_put_same hm (show WideAt.IsKeyLit (.int .i64 e.1) from trivial)]
      · have : (Lit.int .i64 k) ≠ .int .i64 e.1 := fun h => he (by injection h with _ h; exact h.symm)
        simp [atKey_put_other this, he]
theorem table_at (cb : Nat) (k : Int) : (putAllV (.map []) (openers cb)).atKey (.int .i64 k) (.held .nilFunc) = .held (opener cb k) := by
  rw [putAllV_gen k _ _ _ isMap_empty, opener]
  cases (openers cb).reverse.find? (fun e => e.1 == k) <;> rfl
theorem zero_opener (w : World) : (zeroValue 84).run Tryz.prog w = .ok .nilFunc w := by kernel_rfl
theorem lookup_run {w : World} {mb cb : Nat} {k : Int} (h : w.ownsMap Tryz.prog 3 Rv mb 12 (putAllV (.map []) (openers cb))) (h0 : -9223372036854775808 ≤ k) (h1 : k ≤ 9223372036854775807) :
    (Instr.lookup 79 (.map (some mb)) (.int .i64 k) false).run Tryz.prog w = .ok (opener cb k) w := by
  obtain ⟨v, ps, hrun, hv⟩ := h.lookup law_int Tryz.underlying79 (zero_opener w) (show Rv .nilFunc = some (.held .nilFunc, []) from rfl) (keyOf_int_mk Tryz.underlying3 (WalkArith.wf_i64 ⟨h0, h1⟩))
  rw [table_at] at hv
  have e : v = opener cb k := by
    simp only [Rv, Option.some.injEq, Prod.mk.injEq] at hv
    injection hv.1
  rw [hrun, e]
theorem neqO_nil (w : World) : (binOp .neq 84 .nilFunc .nilFunc).run Tryz.prog w = .ok (.bool false) w := by kernel_rfl
theorem neqO_func (k : Nat) (c : Array Value) (w : World) : (binOp .neq 84 (.func (.func k) #[] c) .nilFunc).run Tryz.prog w = .ok (.bool true) w := by kernel_rfl
/-- the kinds whose opening hangs on the map -/
def mapKinds : List Int := [22, 27, 29, 46, 44, 45, 43, 36, 37]
theorem opener_some (cb : Nat) {k : Int} (h : k ∈ mapKinds) : ∃ j c, opener cb k = .func (.func j) #[] c := by
  simp only [mapKinds, List.mem_cons, List.not_mem_nil, or_false] at h
  rcases h with rfl | rfl | rfl | rfl | rfl | rfl | rfl | rfl | rfl <;> exact ⟨_, _, rfl⟩
theorem opener_none (cb : Nat) {k : Int} (h : k ∉ mapKinds) (h1 : k ≠ 31) (h2 : k ≠ 39) (h3 : k ≠ 40) : opener cb k = .nilFunc := by
  simp only [mapKinds, List.mem_cons, List.not_mem_nil, or_false, not_or] at h
  obtain ⟨a, b, c, d, e, f, g, i, j⟩ := h
  have ne : ∀ n : Int, k ≠ n → (n == k) = false := fun n hn => by simp; exact fun e => hn e.symm
  simp [opener, openers, ne _ a, ne _ b, ne _ c, ne _ d, ne _ e, ne _ f, ne _ g, ne _ i, ne _ j, ne _ h1, ne _ h2, ne _ h3]
theorem opensK_map {k v : Int} {s : List UInt8} (h : k ∈ mapKinds) : T.opensK k s v = true := by
  simp only [mapKinds, List.mem_cons, List.not_mem_nil, or_false] at h
  rcases h with rfl | rfl | rfl | rfl | rfl | rfl | rfl | rfl | rfl <;> rfl
theorem opensK_not {k v : Int} {s : List UInt8} (h : k ∉ mapKinds) (h0 : k ≠ 20) (h1 : k ≠ 31) (h2 : k ≠ 39) (h3 : k ≠ 40) : T.opensK k s v = false := by
  simp only [mapKinds, List.mem_cons, List.not_mem_nil, or_false, not_or] at h
  obtain ⟨a, b, c, d, e, f, g, i, j⟩ := h
  simp [T.opensK, a, b, c, d, e, f, g, i, j, h0, h1, h2, h3]

def OpensPost (b : Bool) (w : World) (e : Ending) (w' : World) : Prop := e = .returned (.bool b) ∧ Below w.heap.size w w'
theorem OpensPost.mk' {a b : Bool} {w w' : World} (h : a = b) (hb : Below w.heap.size w w') : OpensPost b w (.returned (.bool a)) w' := ⟨by rw [h], hb⟩

set_option maxHeartbeats 2000000 in
theorem opens_calls (x : TV) (v : Int) (eb mb cb : Nat) (w : World) (hE : ExpAt w eb mb cb) (h0 : -9223372036854775808 ≤ x.kind) (h1 : x.kind ≤ 9223372036854775807) :
    Calls Tryz.prog 64 #[.pointer (some ⟨eb, 0, none⟩), x.val, .int .i64 v] w (OpensPost (T.opensK x.kind x.text.data.toList v) w) := by
  simp only [TV.val, TV.cells]
  by_cases k20 : x.kind = 20
  · have HO := Lib.hid (show T.opensK x.kind x.text.data.toList v = ((x.text.toList == [91]) || (x.text.toList == [93])) from by rw [k20, ByteArray.toList_eq]; rfl)
    cases hx1 : (x.text.toList == [91])
    all_goals
      rw [k20]
      rw [hx1, k20] at HO
      go_enter Tryz.func64, Tryz.ntmps64
      go_wp2_with fail
      all_goals go_ret
      all_goals exact OpensPost.mk' (by rw [HO.out]; simp_all) (by go_grown)
  by_cases k3 : x.kind = 31 ∨ x.kind = 39 ∨ x.kind = 40
  · have HO := Lib.hid (show T.opensK x.kind x.text.data.toList v = (v == 1) from by simp only [T.opensK, k20, k3, if_false, if_true])
    rcases k3 with k3 | k3 | k3
    all_goals
      rw [k3] at HO ⊢
      go_enter Tryz.func64, Tryz.ntmps64
      go_wp2_with fail
      all_goals go_ret
      all_goals exact OpensPost.mk' (by rw [HO.out]) (by go_grown)
  have hne : ∀ n : Int, ¬ x.kind = n → (x.kind == n) = false := fun n h => by simp [h]
  have d20 := hne 20 k20
  have d31 := hne 31 (fun h => k3 (.inl h))
  have d39 := hne 39 (fun h => k3 (.inr (.inl h)))
  have d40 := hne 40 (fun h => k3 (.inr (.inr h)))
  have hm1 := hE.m.alloc (.cells #[.int .i64 x.kind, .string x.text, .int .i64 x.n, .slice x.sa x.sl x.sc, .slice x.aa x.al x.ac, .slice x.ka x.kl x.kc] 29)
  have hrun := lookup_run hm1 h0 h1
  have hrun2 := fun n : Nat => lookup_run (w := (w.alloc (.cells #[.int .i64 x.kind, .string x.text, .int .i64 x.n, .slice x.sa x.sl x.sc, .slice x.aa x.al x.ac, .slice x.ka x.kl x.kc] 29)).drewN n) (mb := mb) (cb := cb) hm1 h0 h1
  have he := hE.e
  have hbw := World.block_lt_of_cell? _ _ he
  by_cases hm : x.kind ∈ mapKinds
  · obtain ⟨j, c, hv⟩ := opener_some cb hm
    have HO := Lib.hid (opensK_map (v := v) (s := x.text.data.toList) hm)
    rw [hv] at hrun
    simp only [hv] at hrun2
    have hq := neqO_func j c
    clear hm hv hm1 hE k20 k3 hne
    go_enter Tryz.func64, Tryz.ntmps64
    go_wp2_with fail
    go_quiet (fail)
    go_wp2_with fail
    go_ret
    exact OpensPost.mk' (by rw [HO.out]) (below_drewN (by go_grown) _)
  · have hv := opener_none cb hm (fun h => k3 (.inl h)) (fun h => k3 (.inr (.inl h))) (fun h => k3 (.inr (.inr h)))
    have HO := Lib.hid (opensK_not (v := v) (s := x.text.data.toList) hm k20 (fun h => k3 (.inl h)) (fun h => k3 (.inr (.inl h))) (fun h => k3 (.inr (.inr h))))
    rw [hv] at hrun
    simp only [hv] at hrun2
    have hq := neqO_nil
    clear hm hv hm1 hE k20 k3 hne
    go_enter Tryz.func64, Tryz.ntmps64
    go_wp2_with fail
    go_quiet (fail)
    go_wp2_with fail
    go_ret
    exact OpensPost.mk' (by rw [HO.out]) (below_drewN (by go_grown) _)
end Go.Proofs.YtnnhbpgpkpbinaaGreat
