/- Package term: Class, Size, by contract. -/
import Derived.Test.YtnnhbpgpkpbinaaGreatProg
import Derived.Test.YtnnhbpgpkpbinaaGreatMem
import Derived.WalkLawsBesides
import Derived.WalkSpells
import Derived.KernelRfl
import Derived.Deep.QuietTactic
import Derived.BigQuiet
namespace Go.Proofs.YtnnhbpgpkpbinaaGreat
open Go.RowKit

theorem ret_int {k : IntKind} {a b : Int} (h : a = b) : Ending.returned (.int k a) = .returned (.int k b) := by rw [h]
theorem bcell {W w1 : World} (hb : Below W.heap.size W w1) : (∀ b o, b < W.heap.size → w1.cell? ⟨b, o, none⟩ = W.cell? ⟨b, o, none⟩) ∧ (∀ b o, b < W.heap.size → w1.frozen? ⟨b, o, none⟩ = W.frozen? ⟨b, o, none⟩) :=
  ⟨fun b o h => hb.cell (p := ⟨b, o, none⟩) h, fun b o h => hb.frozen (p := ⟨b, o, none⟩) h⟩

theorem class_calls (x : TV) (w : World) : Calls Tryz.prog 34 #[x.val] w fun e w' => e = .returned (.int .i64 (T.cls x.kind)) ∧ Below w.heap.size w w' := by
  obtain ⟨kind, text, n, sa, sl, sc, aa, al, ac, ka, kl, kc⟩ := x
  simp only [TV.val, TV.cells]
  go_enter Tryz.func34, Tryz.ntmps34
  go_wp2_with fail
  all_goals go_ret
  all_goals exact ⟨ret_int (by unfold T.cls; (repeat' split) <;> omega), (Below.refl _ _).alloc (Nat.le_refl _) _⟩

/-- the sums over the first so many kids -/
def T.sumN (l : List T) (i : Nat) : Nat := T.nodesL (l.take i)
def T.maxH (l : List T) (i : Nat) : Nat := T.heightL (l.take i)
theorem T.nodesL_append (l r : List T) : T.nodesL (l ++ r) = T.nodesL l + T.nodesL r := by
  induction l with
  | nil => simp [T.nodesL]
  | cons t l ih => simp only [List.cons_append, T.nodesL, ih]; omega
theorem T.heightL_append (l r : List T) : T.heightL (l ++ r) = max (T.heightL l) (T.heightL r) := by
  induction l with
  | nil => simp [T.heightL]
  | cons t l ih => simp only [List.cons_append, T.heightL, ih]; omega
theorem T.sumN_succ {l : List T} {k : Nat} {u : T} (h : l[k]? = some u) : T.sumN l (k + 1) = T.sumN l k + u.nodes := by
  simp only [T.sumN, List.take_add_one, h, Option.toList, T.nodesL_append, T.nodesL]; omega
theorem T.maxH_succ {l : List T} {k : Nat} {u : T} (h : l[k]? = some u) : T.maxH l (k + 1) = max (T.maxH l k) u.height := by
  simp only [T.maxH, List.take_add_one, h, Option.toList, T.heightL_append, T.heightL]; omega
theorem T.sumN_all (l : List T) {k : Nat} (h : l.length ≤ k) : T.sumN l k = T.nodesL l := by rw [T.sumN, List.take_of_length_le h]
theorem T.maxH_all (l : List T) {k : Nat} (h : l.length ≤ k) : T.maxH l k = T.heightL l := by rw [T.maxH, List.take_of_length_le h]
theorem T.sumN_le (l : List T) (k : Nat) : T.sumN l k ≤ T.nodesL l := by
  have := T.nodesL_append (l.take k) (l.drop k)
  rw [List.take_append_drop] at this
  simp only [T.sumN]; omega
theorem T.maxH_le (l : List T) (k : Nat) : T.maxH l k ≤ T.heightL l := by
  have := T.heightL_append (l.take k) (l.drop k)
  rw [List.take_append_drop] at this
  simp only [T.maxH]; omega

/-- what a count comes to: behind a term of so many nodes, so deep -/
def AddPost (w : World) (cb : Nat) (a m d : Int) (N H : Nat) (e : Ending) (w' : World) : Prop :=
  ∃ a' m' : Int, w.grownBy w' (some cb) ∧ w'.cell? ⟨cb, 0, none⟩ = some (.int .i64 a') ∧ w'.cell? ⟨cb, 1, none⟩ = some (.int .i64 m') ∧ (∀ o, w'.frozen? ⟨cb, o, none⟩ = false) ∧
    ((a + N ≤ 4096 ∧ d + H ≤ 257 ∧ e = .returned (.bool true) ∧ a' = a + N ∧ m' = max m (d + H - 1)) ∨ (¬ (a + N ≤ 4096 ∧ d + H ≤ 257) ∧ e = .returned (.bool false)))
/-- at a round's head -/
def AddRel (w : World) (cb : Nat) (a m d : Int) (l : List T) (k : Nat) (wr : World) : Prop :=
  w.grownBy wr (some cb) ∧ wr.cell? ⟨cb, 0, none⟩ = some (.int .i64 (a + 1 + T.sumN l k)) ∧ wr.cell? ⟨cb, 1, none⟩ = some (.int .i64 (max m (d + T.maxH l k))) ∧ (∀ o, wr.frozen? ⟨cb, o, none⟩ = false) ∧
    a + 1 + T.sumN l k ≤ 4096 ∧ d + T.maxH l k ≤ 256

theorem grown_set (w : World) (cb o : Nat) (v : Value) : w.grownBy (w.setCell ⟨cb, o, none⟩ v) (some cb) :=
  ⟨rfl, rfl, rfl, by simp [World.setCell], fun k _ hne => Below.heap_setCell w ⟨cb, o, none⟩ v k (fun e => hne (by rw [e]))⟩

/-- the contract of add, at every place and in every world -/
def AddAll (t : T) : Prop := ∀ (x : TV) (tb to cb B : Nat) (a m d : Int) (w : World), Rep w B t x → At w tb to x → tb ≠ cb → B ≤ cb → B ≤ w.heap.size → w.cell? ⟨cb, 0, none⟩ = some (.int .i64 a) → w.cell? ⟨cb, 1, none⟩ = some (.int .i64 m) →
    (∀ o, w.frozen? ⟨cb, o, none⟩ = false) → 0 ≤ a → a ≤ 4096 → 1 ≤ d → d ≤ 257 → 0 ≤ m → m ≤ 257 →
    Calls Tryz.prog 35 #[.pointer (some ⟨cb, 0, none⟩), .pointer (some ⟨tb, to, none⟩), .int .i64 d] w (AddPost w cb a m d t.nodes t.height)

theorem add_start {w : World} {cb : Nat} {a m d M : Int} {l : List T} (hc0 : w.cell? ⟨cb, 0, none⟩ = some (.int .i64 a)) (hc1 : w.cell? ⟨cb, 1, none⟩ = some (.int .i64 m)) (hf : ∀ o, w.frozen? ⟨cb, o, none⟩ = false)
    (hM : M = max m d) (ha : a + 1 ≤ 4096) (hd : d ≤ 256) : AddRel w cb a m d l 0 ((w.setCell ⟨cb, 0, none⟩ (.int .i64 (a + 1))).setCell ⟨cb, 1, none⟩ (.int .i64 M)) := by
  have z1 : T.sumN l 0 = 0 := by simp [T.sumN, T.nodesL]
  have z2 : T.maxH l 0 = 0 := by simp [T.maxH, T.heightL]
  have g1 := grown_set w cb 0 (.int .i64 (a + 1))
  have g2 := grown_set (w.setCell ⟨cb, 0, none⟩ (.int .i64 (a + 1))) cb 1 (.int .i64 M)
  have g := g1.trans g2
  refine ⟨g, ?_, ?_, ?_, by rw [z1]; simpa using ha, by rw [z2]; simpa using hd⟩
  · rw [z1]; simp [hc0, go_sem]
  · rw [z2, hM]; simp [hc1, go_sem]
  · intro o; simp [hf, go_sem]

theorem add_early {w : World} {cb : Nat} {a m d M : Int} {N H : Nat} (hc0 : w.cell? ⟨cb, 0, none⟩ = some (.int .i64 a)) (hc1 : w.cell? ⟨cb, 1, none⟩ = some (.int .i64 m)) (hf : ∀ o, w.frozen? ⟨cb, o, none⟩ = false)
    (hbig : 4096 < a + 1 ∨ 256 < d) : AddPost w cb a m d (1 + N) (1 + H) (.returned (.bool false)) ((w.setCell ⟨cb, 0, none⟩ (.int .i64 (a + 1))).setCell ⟨cb, 1, none⟩ (.int .i64 M)) := by
  have g1 := grown_set w cb 0 (.int .i64 (a + 1))
  have g2 := grown_set (w.setCell ⟨cb, 0, none⟩ (.int .i64 (a + 1))) cb 1 (.int .i64 M)
  refine ⟨a + 1, M, g1.trans g2, ?_, ?_, ?_, .inr ⟨by omega, rfl⟩⟩
  · simp [hc0, go_sem]
  · simp [hc1, go_sem]
  · intro o; simp [hf, go_sem]
end Go.Proofs.YtnnhbpgpkpbinaaGreat
