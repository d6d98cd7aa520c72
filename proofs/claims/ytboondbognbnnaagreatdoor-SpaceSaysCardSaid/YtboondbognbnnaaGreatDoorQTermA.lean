/- Package term: Class, Size, by contract. Package term: the walk of the counter. Package term: Size, great. Package term: operand, pattern, is. Package term: named. -/
import Derived.Test.YtboondbognbnnaaGreatDoorProg
import Derived.Test.YtboondbognbnnaaGreatDoorQPureA
import Derived.WalkLawsBesides
import Derived.WalkSpells
import Derived.KernelRfl
import Derived.Deep.QuietTactic
import Derived.BigQuiet
import Derived.Lib.Hide
set_option linter.unusedVariables false
set_option linter.unusedSimpArgs false
namespace Go.Proofs.YtboondbognbnnaaGreatDoor
open Go.RowKit

theorem ret_int {k : IntKind} {a b : Int} (h : a = b) : Ending.returned (.int k a) = .returned (.int k b) := by rw [h]
theorem bcell {W w1 : World} (hb : Below W.heap.size W w1) : (∀ b o, b < W.heap.size → w1.cell? ⟨b, o, none⟩ = W.cell? ⟨b, o, none⟩) ∧ (∀ b o, b < W.heap.size → w1.frozen? ⟨b, o, none⟩ = W.frozen? ⟨b, o, none⟩) :=
  ⟨fun b o h => hb.cell (p := ⟨b, o, none⟩) h, fun b o h => hb.frozen (p := ⟨b, o, none⟩) h⟩

theorem class_calls (x : TV) (w : World) : Calls Tryz.prog 33 #[x.val] w fun e w' => e = .returned (.int .i64 (T.cls x.kind)) ∧ Below w.heap.size w w' := by
  obtain ⟨kind, text, n, sa, sl, sc, aa, al, ac, ka, kl, kc⟩ := x
  simp only [TV.val, TV.cells]
  go_enter Tryz.func33, Tryz.ntmps33
  go_wp2_with fail
  all_goals go_ret
  all_goals exact ⟨ret_int (by unfold T.cls; (repeat' split) <;> omega), (Below.refl _ _).alloc (Nat.le_refl _) _⟩

/-- the sums over the first so many kids -/
def T.sumN (l : List T) (i : Nat) : Nat := T.nodesL (l.take i)
def T.maxH (l : List T) (i : Nat) : Nat := T.heightL (l.take i)
theorem T.nodesL_append (l r : List T) : T.nodesL (l ++ r) = T.nodesL l + T.nodesL r := by
  induction l with
  | nil => simp [T.nodesL]
  | cons t l ih => simp only [List.cons_append, T.nodesL, ih]; omega
theorem T.heightL_append (l r : List T) : T.heightL (l ++ r) = max (T.heightL l) (T.heightL r) := by
  induction l with
  | nil => simp [T.heightL]
  | cons t l ih => simp only [List.cons_append, T.heightL, ih]; omega
theorem T.sumN_succ {l : List T} {k : Nat} {u : T} (h : l[k]? = some u) : T.sumN l (k + 1) = T.sumN l k + u.nodes := by
  simp only [T.sumN, List.take_add_one, h, Option.toList, T.nodesL_append, T.nodesL]; omega
theorem T.maxH_succ {l : List T} {k : Nat} {u : T} (h : l[k]? = some u) : T.maxH l (k + 1) = max (T.maxH l k) u.height := by
  simp only [T.maxH, List.take_add_one, h, Option.toList, T.heightL_append, T.heightL]; omega
theorem T.sumN_all (l : List T) {k : Nat} (h : l.length ≤ k) : T.sumN l k = T.nodesL l := by rw [T.sumN, List.take_of_length_le h]
theorem T.maxH_all (l : List T) {k : Nat} (h : l.length ≤ k) : T.maxH l k = T.heightL l := by rw [T.maxH, List.take_of_length_le h]
theorem T.sumN_le (l : List T) (k : Nat) : T.sumN l k ≤ T.nodesL l := by
  have := T.nodesL_append (l.take k) (l.drop k)
  rw [List.take_append_drop] at this
  simp only [T.sumN]; omega
theorem T.maxH_le (l : List T) (k : Nat) : T.maxH l k ≤ T.heightL l := by
  have := T.heightL_append (l.take k) (l.drop k)
  rw [List.take_append_drop] at this
  simp only [T.maxH]; omega

/-- what a count comes to: behind a term of so many nodes, so deep -/
def AddPost (w : World) (cb : Nat) (a m d : Int) (N H : Nat) (e : Ending) (w' : World) : Prop :=
  ∃ a' m' : Int, w.grownBy w' (some cb) ∧ w'.cell? ⟨cb, 0, none⟩ = some (.int .i64 a') ∧ w'.cell? ⟨cb, 1, none⟩ = some (.int .i64 m') ∧ (∀ o, w'.frozen? ⟨cb, o, none⟩ = false) ∧
    ((a + N ≤ 4096 ∧ d + H ≤ 257 ∧ e = .returned (.bool true) ∧ a' = a + N ∧ m' = max m (d + H - 1)) ∨ (¬ (a + N ≤ 4096 ∧ d + H ≤ 257) ∧ e = .returned (.bool false)))
/-- at a round's head -/
def AddRel (w : World) (cb : Nat) (a m d : Int) (l : List T) (k : Nat) (wr : World) : Prop :=
  w.grownBy wr (some cb) ∧ wr.cell? ⟨cb, 0, none⟩ = some (.int .i64 (a + 1 + T.sumN l k)) ∧ wr.cell? ⟨cb, 1, none⟩ = some (.int .i64 (max m (d + T.maxH l k))) ∧ (∀ o, wr.frozen? ⟨cb, o, none⟩ = false) ∧
    a + 1 + T.sumN l k ≤ 4096 ∧ d + T.maxH l k ≤ 256

theorem grown_set (w : World) (cb o : Nat) (v : Value) : w.grownBy (w.setCell ⟨cb, o, none⟩ v) (some cb) :=
  ⟨rfl, rfl, rfl, by simp [World.setCell], fun k _ hne => Below.heap_setCell w ⟨cb, o, none⟩ v k (fun e => hne (by rw [e]))⟩

/-- the contract of add, at every place and in every world -/
def AddAll (t : T) : Prop := ∀ (x : TV) (tb to cb B : Nat) (a m d : Int) (w : World), Rep w B t x → At w tb to x → tb ≠ cb → B ≤ cb → B ≤ w.heap.size → w.cell? ⟨cb, 0, none⟩ = some (.int .i64 a) → w.cell? ⟨cb, 1, none⟩ = some (.int .i64 m) →
    (∀ o, w.frozen? ⟨cb, o, none⟩ = false) → 0 ≤ a → a ≤ 4096 → 1 ≤ d → d ≤ 257 → 0 ≤ m → m ≤ 257 →
    Calls Tryz.prog 87 #[.pointer (some ⟨cb, 0, none⟩), .pointer (some ⟨tb, to, none⟩), .int .i64 d] w (AddPost w cb a m d t.nodes t.height)

theorem add_start {w : World} {cb : Nat} {a m d M : Int} {l : List T} (hc0 : w.cell? ⟨cb, 0, none⟩ = some (.int .i64 a)) (hc1 : w.cell? ⟨cb, 1, none⟩ = some (.int .i64 m)) (hf : ∀ o, w.frozen? ⟨cb, o, none⟩ = false)
    (hM : M = max m d) (ha : a + 1 ≤ 4096) (hd : d ≤ 256) : AddRel w cb a m d l 0 ((w.setCell ⟨cb, 0, none⟩ (.int .i64 (a + 1))).setCell ⟨cb, 1, none⟩ (.int .i64 M)) := by
  have z1 : T.sumN l 0 = 0 := by simp [T.sumN, T.nodesL]
  have z2 : T.maxH l 0 = 0 := by simp [T.maxH, T.heightL]
  have g1 := grown_set w cb 0 (.int .i64 (a + 1))
  have g2 := grown_set (w.setCell ⟨cb, 0, none⟩ (.int .i64 (a + 1))) cb 1 (.int .i64 M)
  have g := g1.trans g2
  refine ⟨g, ?_, ?_, ?_, by rw [z1]; simpa using ha, by rw [z2]; simpa using hd⟩
  · rw [z1]; simp [hc0, go_sem]
  · rw [z2, hM]; simp [hc1, go_sem]
  · intro o; simp [hf, go_sem]

theorem add_early {w : World} {cb : Nat} {a m d M : Int} {N H : Nat} (hc0 : w.cell? ⟨cb, 0, none⟩ = some (.int .i64 a)) (hc1 : w.cell? ⟨cb, 1, none⟩ = some (.int .i64 m)) (hf : ∀ o, w.frozen? ⟨cb, o, none⟩ = false)
    (hbig : 4096 < a + 1 ∨ 256 < d) : AddPost w cb a m d (1 + N) (1 + H) (.returned (.bool false)) ((w.setCell ⟨cb, 0, none⟩ (.int .i64 (a + 1))).setCell ⟨cb, 1, none⟩ (.int .i64 M)) := by
  have g1 := grown_set w cb 0 (.int .i64 (a + 1))
  have g2 := grown_set (w.setCell ⟨cb, 0, none⟩ (.int .i64 (a + 1))) cb 1 (.int .i64 M)
  refine ⟨a + 1, M, g1.trans g2, ?_, ?_, ?_, .inr ⟨by omega, rfl⟩⟩
  · simp [hc0, go_sem]
  · simp [hc1, go_sem]
  · intro o; simp [hf, go_sem]
end Go.Proofs.YtboondbognbnnaaGreatDoor

namespace Go.Proofs.YtboondbognbnnaaGreatDoor
open Go.RowKit

theorem AddPost.ends {w : World} {cb : Nat} {a m d : Int} {N H : Nat} {e : Ending} {w' : World} (h : AddPost w cb a m d N H e w') : e = .returned (.bool true) ∨ e = .returned (.bool false) := by
  obtain ⟨_, _, _, _, _, _, ⟨_, _, h, _⟩ | ⟨_, h⟩⟩ := h
  · exact .inl h
  · exact .inr h
theorem add_next {w wr w' : World} {cb : Nat} {a m d : Int} {l : List T} {k : Nat} {u : T} (hu : l[k]? = some u) (h : AddRel w cb a m d l k wr) (h5 : 0 ≤ m)
    (hp : AddPost wr cb (a + 1 + T.sumN l k) (max m (d + T.maxH l k)) (d + 1) u.nodes u.height (.returned (.bool true)) w') : AddRel w cb a m d l (k + 1) w' := by
  obtain ⟨a', m', g', c0, c1, f', hh⟩ := hp
  obtain ⟨g, _, _, _, _, _⟩ := h
  rcases hh with ⟨q1, q2, _, rfl, rfl⟩ | ⟨_, e⟩
  · have s1 := T.sumN_succ hu
    have s2 := T.maxH_succ hu
    have hp := T.height_pos u
    refine ⟨g.trans g', ?_, ?_, f', by omega, by omega⟩
    · rw [c0, s1]; congr 2; omega
    · rw [c1, s2]; congr 2; omega
  · cases e
theorem add_fails {w wr w' : World} {cb : Nat} {a m d : Int} {l : List T} {k : Nat} {u : T} (hu : l[k]? = some u) (h : AddRel w cb a m d l k wr)
    (hp : AddPost wr cb (a + 1 + T.sumN l k) (max m (d + T.maxH l k)) (d + 1) u.nodes u.height (.returned (.bool false)) w') :
    AddPost w cb a m d (1 + T.nodesL l) (1 + T.heightL l) (.returned (.bool false)) w' := by
  obtain ⟨a', m', g', c0, c1, f', hh⟩ := hp
  obtain ⟨g, _, _, _, _, _⟩ := h
  refine ⟨a', m', g.trans g', c0, c1, f', .inr ⟨?_, rfl⟩⟩
  rcases hh with ⟨_, _, e, _⟩ | ⟨hn, _⟩
  · cases e
  · have s1 := T.sumN_succ hu
    have s2 := T.maxH_succ hu
    have l1 := T.sumN_le l (k + 1)
    have l2 := T.maxH_le l (k + 1)
    omega
theorem add_ends {w wr : World} {cb : Nat} {a m d : Int} {l : List T} {k : Nat} (h : AddRel w cb a m d l k wr) (hk : l.length ≤ k) (h3 : 1 ≤ d) :
    AddPost w cb a m d (1 + T.nodesL l) (1 + T.heightL l) (.returned (.bool true)) wr := by
  obtain ⟨g, c0, c1, f, q1, q2⟩ := h
  rw [T.sumN_all l hk] at c0 q1
  rw [T.maxH_all l hk] at c1 q2
  refine ⟨_, _, g, c0, c1, f, .inl ⟨by omega, by omega, rfl, by omega, by omega⟩⟩

set_option maxHeartbeats 2000000 in
theorem add_all (t : T) : AddAll t := by
  refine T.ind (P := AddAll) ?_ t
  intro k s n sh at_ l ih x tb to cb B a m d w hr hat hne hB hBw hc0 hc1 hf h1 h2 h3 h4 h5 h6
  obtain ⟨t0, t1, t2, t3, t4, t5⟩ := hat
  have hN : (T.mk k s n sh at_ l).nodes = 1 + T.nodesL l := by simp [T.nodes]
  have hH : (T.mk k s n sh at_ l).height = 1 + T.heightL l := by simp [T.height]
  rw [hN, hH]
  clear hN hH
  have hkl := hr.kl
  have hwee := hr.wee
  simp only [T.kids_mk] at hkl
  have hk1 : x.kl ≤ 2199023255552 := hwee.l1
  have HKL := Lib.hid hkl
  clear hkl t0 t1 t2 t3 t4
  have hcbw := World.block_lt_of_cell? w _ hc0
  have htbw := World.block_lt_of_cell? w _ t5
  by_cases hbig : 4096 < a + 1 ∨ 256 < d
  · have hE := fun M : Int => add_early (N := T.nodesL l) (H := T.heightL l) (M := M) hc0 hc1 hf hbig
    have HE := Lib.hid hE
    clear hE
    by_cases hmd : m < d
    all_goals
      go_enter Tryz.func87, Tryz.ntmps87
      go_wp2_with fail
    all_goals first
      | (go_ret; exact HE.out _)
      | (exfalso; omega)
  · have ha : a + 1 ≤ 4096 := by omega
    have hd : d ≤ 256 := by omega
    have hS := fun (M : Int) (hM : M = max m d) => add_start (l := l) hc0 hc1 hf hM ha hd
    have HS := Lib.hid hS
    clear hS
    by_cases hmd : m < d
    all_goals
      have hM : (if m < d then d else m) = max m d := by split <;> omega
      have HM := Lib.hid hM
      clear hM
      go_enter Tryz.func87, Tryz.ntmps87
      go_wp2_with fail
      go_loopw [38] (fun i wr => ∃ k : Nat, k ≤ x.kl ∧ i = .int .i64 k ∧ AddRel w cb a m d l k wr) (fun i _ => x.kl - (intOf i).toNat)
      case atStart => exact ⟨0, Nat.zero_le _, rfl, HS.out _ (by omega)⟩
      case round =>
        obtain ⟨i, hi, rfl, hrel⟩ := hrel
        by_cases hlt : i < x.kl
        · obtain ⟨u, hu⟩ : ∃ u, l[i]? = some u := ⟨l[i]'(by rw [← HKL.out]; exact hlt), by simp⟩
          obtain ⟨b, o, y, he, hb, hat, hru⟩ := hr.kid (t := T.mk k s n sh at_ l) (j := i) hu
          have hg := hrel.1
          have hkeep : Keeps B w wr := Keeps.of_grown hg hBw (fun g e => by injection e with e; omega)
          have hat' := hat.keep hb hkeep
          have hru' := Rep.keep hkeep u y hru
          have t5' : wr.cell? ⟨tb, to + 5, none⟩ = some (.slice (some ⟨b, o, none⟩) x.kl x.kc) := by
            rw [hg.cell t5 (by simpa using hne), he]
          have IH := Lib.hid (ih u (List.mem_of_getElem? hu))
          have HR := Lib.hid hrel
          have HU := Lib.hid hu
          clear hu he hrel t5
          have b1 := HR.out.2.2.2.2.1
          have b2 := HR.out.2.2.2.2.2
          go_wp2_with fail
          refine (IH.out y b (o + i * 6) cb B (a + 1 + T.sumN l i) (max m (d + T.maxH l i)) (d + 1) wr hru' hat' (by omega) hB (Nat.le_trans hBw hg.size) HR.out.2.1 HR.out.2.2.1 HR.out.2.2.2.1 (by omega) (by omega) (by omega) (by omega) (by omega) (by omega)).mono ?_
          intro e w' hp
          have HP := Lib.hid hp
          rcases hp.ends with rfl | rfl
          all_goals
            clear hp
            go_wp2_with fail
          · go_roundw
            case rel => exact ⟨i + 1, by omega, by go_num, add_next HU.out HR.out h5 HP.out⟩
            case measure => simp [intOf]; omega
          · go_ret
            exact add_fails HU.out HR.out HP.out
        · have hik : l.length ≤ i := by rw [← HKL.out]; omega
          have HR := Lib.hid hrel
          clear hrel
          go_wp2_with fail
          go_ret
          exact add_ends HR.out hik h3
end Go.Proofs.YtboondbognbnnaaGreatDoor

namespace Go.Proofs.YtboondbognbnnaaGreatDoor
open Go.RowKit

/-- A term's six cells, laid into a block of their own. -/
theorem At.boxed (w : World) (x : TV) (ty : TypeId) : At (w.alloc (.cells x.cells ty)) w.heap.size 0 x := by
  constructor <;> simp [TV.cells]

/-- what a whole count comes to -/
theorem count_ends {t : T} {W w' : World} {cb : Nat} {e : Ending} (h : AddPost W cb 0 0 1 t.nodes t.height e w') :
    (e = .returned (.bool true) ∧ t.fits ∧ w'.cell? ⟨cb, 0, none⟩ = some (.int .i64 (t.sizeN : Int)) ∧ w'.cell? ⟨cb, 1, none⟩ = some (.int .i64 (t.sizeD : Int)) ∧ W.grownBy w' (some cb)) ∨
      (e = .returned (.bool false) ∧ ¬ t.fits ∧ W.grownBy w' (some cb)) := by
  obtain ⟨a', m', g, c0, c1, f, ⟨h1, h2, he, ha, hm⟩ | ⟨hn, he⟩⟩ := h
  · have hf : t.fits := ⟨by omega, by omega⟩
    refine .inl ⟨he, hf, ?_, ?_, g⟩
    · rw [c0, ha, T.sizeN, if_pos hf]; simp
    · rw [c1, hm, T.sizeD, if_pos hf]
      congr 2
      have := T.height_pos t
      omega
  · refine .inr ⟨he, fun hf => hn ⟨by have := hf.1; omega, by have := hf.2; omega⟩, g⟩
theorem below_grown {B : Nat} {a w w' : World} {cb : Nat} (h : Below B a w) (hg : w.grownBy w' (some cb)) (hB : B ≤ w.heap.size) (hc : B ≤ cb) : Below B a w' :=
  h.grown hg hB (fun k hk => by injection hk with hk; omega)

set_option maxHeartbeats 1000000 in
theorem size_calls (t : T) (x : TV) (B : Nat) (w : World) (hr : Rep w B t x) (hB : B ≤ w.heap.size) :
    Calls Tryz.prog 56 #[x.val] w fun e w' => e = .returned (.tuple #[.int .i64 (t.sizeN : Int), .int .i64 (t.sizeD : Int)]) ∧ Below w.heap.size w w' := by
  have hb1 : Below w.heap.size w (w.alloc (.cells x.cells 29)) := (Below.refl w.heap.size w).alloc (Nat.le_refl _) _
  have hb2 : Below w.heap.size w ((w.alloc (.cells x.cells 29)).alloc (.cells #[.int .i64 0, .int .i64 0] 148)) := hb1.alloc hb1.size _
  have hat := (At.boxed w x 29).keep (B := w.heap.size + 1) (w' := (w.alloc (.cells x.cells 29)).alloc (.cells #[.int .i64 0, .int .i64 0] 148)) (by omega)
    (Keeps.of_below (B := (w.alloc (.cells x.cells 29)).heap.size) ((Below.refl _ _).alloc (Nat.le_refl _) _) (by simp))
  have hr1 := Rep.below hr hb2 hB
  have hadd := add_all t x w.heap.size 0 (w.heap.size + 1) B 0 0 1 _ hr1 hat (by omega) (by omega) (by simp; omega) (by simp) (by simp) (by intro o; simp) (by omega) (by omega) (by omega) (by omega) (by omega) (by omega)
  have HA := Lib.hid hadd
  clear hadd hat
  simp only [TV.val]
  go_enter Tryz.func56, Tryz.ntmps56
  go_wp2_with fail
  refine HA.out.mono ?_
  intro e w1 hp
  rcases count_ends hp with ⟨rfl, hf, c0, c1, g⟩ | ⟨rfl, hf, g⟩
  · have hbw := below_grown hb2 g (by simp; omega) (by omega)
    clear hp
    go_wp2_with fail
    go_quiet (fail)
    go_wp2_with fail
    go_ret2
    exact ⟨rfl, below_drewN hbw _⟩
  · have e1 : t.sizeN = 4097 := by rw [T.sizeN, if_neg hf]
    have e2 : t.sizeD = 257 := by rw [T.sizeD, if_neg hf]
    have hbw := below_grown hb2 g (by simp; omega) (by omega)
    clear hp
    have E1 := Lib.hid e1
    have E2 := Lib.hid e2
    clear e1 e2
    go_wp2_with fail
    go_ret2
    exact ⟨by rw [E1.out, E2.out]; rfl, hbw⟩

theorem great_calls (t : T) (x : TV) (B : Nat) (w : World) (hr : Rep w B t x) (hB : B ≤ w.heap.size) :
    Calls Tryz.prog 31 #[x.val] w fun e w' => e = .returned (.bool (decide (4096 < (t.sizeN : Int)))) ∧ Below w.heap.size w w' := by
  have hb1 : Below w.heap.size w (w.alloc (.cells x.cells 29)) := (Below.refl w.heap.size w).alloc (Nat.le_refl _) _
  have hs := size_calls t x B _ (Rep.below hr hb1 hB) (by simp; omega)
  simp only [TV.val, TV.cells] at hs hb1 ⊢
  have HS := Lib.hid hs
  clear hs
  go_enter Tryz.func31, Tryz.ntmps31
  go_wp2_with fail
  refine HS.out.mono ?_
  rintro e w1 ⟨rfl, hb⟩
  go_wp2_with fail
  go_ret
  exact ⟨rfl, hb1.trans (hb.mono (by simp))⟩
end Go.Proofs.YtboondbognbnnaaGreatDoor

namespace Go.Proofs.YtboondbognbnnaaGreatDoor
open Go.RowKit

theorem pattern_calls (k : Int) (w : World) : Calls Tryz.prog 92 #[.int .i64 k] w fun e w' => e = .returned (.string (T.txt (T.pattern k))) ∧ w = w' := by
  go_enter Tryz.func92, Tryz.ntmps92
  go_wp2_with fail
  all_goals go_ret
  all_goals refine ⟨?_, rfl⟩
  all_goals first | rfl | (simp_all [T.pattern, T.txt]; done) | skip

theorem operand_calls (x : TV) (w : World) : Calls Tryz.prog 126 #[x.val] w fun e w' => e = .returned (.bool (T.operandK x.kind x.text.data.toList)) ∧ Below w.heap.size w w' := by
  obtain ⟨kind, text, n, sa, sl, sc, aa, al, ac, ka, kl, kc⟩ := x
  simp only [TV.val, TV.cells]
  go_enter Tryz.func126, Tryz.ntmps126
  go_wp2_with fail
  all_goals go_ret
  all_goals refine ⟨?_, (Below.refl _ _).alloc (Nat.le_refl _) _⟩
  all_goals simp_all [T.operandK, ByteArray.toList_eq, bne]

/-- is a kid of a letter? -/
def T.isK (k : Int) (s : List UInt8) (c : Int) : Bool :=
  if c = 110 then T.cls k == 1 else if c = 118 then T.cls k == 3 else if c = 98 then k == 14 else if c = 111 then T.operandK k s else T.cls k == 2 && k != 14

theorem is_calls (x : TV) (c : Int) (w : World) : Calls Tryz.prog 93 #[x.val, .int .u8 c] w fun e w' => e = .returned (.bool (T.isK x.kind x.text.data.toList c)) ∧ Below w.heap.size w w' := by
  have hC := fun W => class_calls x W
  have hO := fun W => operand_calls x W
  obtain ⟨kind, text, n, sa, sl, sc, aa, al, ac, ka, kl, kc⟩ := x
  simp only [TV.val, TV.cells] at hC hO ⊢
  have HC := Lib.hid hC
  have HO := Lib.hid hO
  clear hC hO
  go_enter Tryz.func93, Tryz.ntmps93
  go_wp2_with (first
    | (go_at_call 33; refine (HC.out _).mono ?_; rintro e w1 ⟨rfl, hb⟩; obtain ⟨hc, hf⟩ := bcell hb; have hs := hb.size; (try simp at hs); have hz : w.heap.size < w1.heap.size := (by omega))
    | (go_at_call 126; refine (HO.out _).mono ?_; rintro e w1 ⟨rfl, hb⟩; obtain ⟨hc, hf⟩ := bcell hb))
  all_goals go_ret
  all_goals refine ⟨?_, ?_⟩
  all_goals first
    | (with_reducible exact (Below.refl _ _).alloc (Nat.le_refl _) _)
    | (with_reducible exact Below.trans ((Below.refl _ _).alloc (Nat.le_refl _) _) (hb.mono (by simp)))
    | (clear hc hf hb; simp_all [T.isK, bne]; done)
    | (simp_all [T.isK, bne]; done)
    | skip
end Go.Proofs.YtboondbognbnnaaGreatDoor

namespace Go.Proofs.YtboondbognbnnaaGreatDoor
open Go.RowKit

theorem named_no (s : ByteArray) (lo hi : Int) (w : World) (hs : s.size ≤ 140737488355328) (hb : s.size < 1 ∨ 32 < s.size) :
    Calls Tryz.prog 89 #[.string s, .int .u8 lo, .int .u8 hi] w fun e w' => e = .returned (.bool false) ∧ w = w' := by
  by_cases h1 : s.size < 1
  · go_enter Tryz.func89, Tryz.ntmps89
    go_wp2_with fail
    all_goals go_ret
    all_goals exact ⟨rfl, rfl⟩
  · have h2 : 32 < s.size := by omega
    go_enter Tryz.func89, Tryz.ntmps89
    go_wp2_with fail
    all_goals go_ret
    all_goals exact ⟨rfl, rfl⟩

/-- the letters 1 .. k - 1 are a name's -/
def okTo (L : List UInt8) (k : Nat) : Bool := ((L.take k).drop 1).all T.inner
theorem okTo_one (L : List UInt8) : okTo L 1 = true := by
  unfold okTo
  cases L <;> simp
theorem okTo_succ (s : ByteArray) (k : Nat) (hk : k < s.size) (h1 : 1 ≤ k) : okTo s.data.toList (k + 1) = (okTo s.data.toList k && T.inner s[k]) := by
  unfold okTo
  have hl : s.data.toList.length = s.size := Array.length_toList
  have e : s.data.toList.take (k + 1) = s.data.toList.take k ++ [s[k]] := by
    rw [List.take_succ_eq_append_getElem (by simpa using hk)]; rfl
  rw [e, List.drop_append_of_le_length (by simp; omega), List.all_append]
  simp
theorem okTo_false (s : ByteArray) (k : Nat) (hk : k < s.size) (h1 : 1 ≤ k) (hi : T.inner s[k] = false) : okTo s.data.toList s.size = false := by
  have hl : s.data.toList.length = s.size := Array.length_toList
  unfold okTo
  rw [List.take_of_length_le (by omega), List.all_eq_false]
  refine ⟨s[k], ?_, by simp [hi]⟩
  have e : (s.data.toList.drop 1)[k - 1]? = some s[k] := by
    rw [List.getElem?_drop, show 1 + (k - 1) = k from by omega, List.getElem?_eq_getElem (by omega)]; rfl
  exact List.mem_of_getElem? e
theorem inner_true {c : UInt8} (h : (97 ≤ (c.toNat : Int) ∧ (c.toNat : Int) ≤ 122) ∨ (65 ≤ (c.toNat : Int) ∧ (c.toNat : Int) ≤ 90) ∨ (48 ≤ (c.toNat : Int) ∧ (c.toNat : Int) ≤ 57)) : T.inner c = true := by
  simp only [T.inner, Bool.or_eq_true, Bool.and_eq_true, decide_eq_true_eq]; omega
theorem inner_false {c : UInt8} (h : ¬ ((97 ≤ (c.toNat : Int) ∧ (c.toNat : Int) ≤ 122) ∨ (65 ≤ (c.toNat : Int) ∧ (c.toNat : Int) ≤ 90) ∨ (48 ≤ (c.toNat : Int) ∧ (c.toNat : Int) ≤ 57))) : T.inner c = false := by
  cases hi : T.inner c
  · rfl
  · simp only [T.inner, Bool.or_eq_true, Bool.and_eq_true, decide_eq_true_eq] at hi; omega
theorem named_split (s : ByteArray) (lo hi : Int) (h1 : 0 < s.size) (h2 : s.size ≤ 32) : T.named s.data.toList lo hi = (decide (lo ≤ (s[0].toNat : Int)) && decide ((s[0].toNat : Int) ≤ hi) && okTo s.data.toList s.size) := by
  have hl : s.data.toList.length = s.size := Array.length_toList
  have h0 : s.data.toList[0]? = some s[0] := by rw [List.getElem?_eq_getElem (by omega)]; rfl
  unfold okTo
  rw [List.take_of_length_le (by omega)]
  generalize s.data.toList = L at *
  cases L with
  | nil => simp at hl; omega
  | cons c r =>
    simp at h0
    subst h0
    have : (s[0] :: r).length ≤ 32 := by omega
    simp only [T.named, this, decide_true, Bool.true_and, List.drop_succ_cons, List.drop_zero]

theorem ret_bool {a b : Bool} (h : a = b) : Ending.returned (.bool a) = .returned (.bool b) := by rw [h]

set_option maxHeartbeats 2000000 in
theorem named_yes (s : ByteArray) (lo hi : Int) (w : World) (h1 : 0 < s.size) (h2 : s.size ≤ 32) :
    Calls Tryz.prog 89 #[.string s, .int .u8 lo, .int .u8 hi] w fun e w' => e = .returned (.bool (T.named s.data.toList lo hi)) ∧ w = w' := by
  have hn := Lib.hid (named_split s lo hi h1 h2)
  by_cases hlo : lo ≤ (s[0].toNat : Int)
  case neg =>
    go_enter Tryz.func89, Tryz.ntmps89
    go_wp2_with fail
    all_goals first | (exfalso; omega) | skip
    all_goals go_ret
    all_goals exact ⟨ret_bool (by rw [hn.out]; simp; omega), rfl⟩
  by_cases hhi : (s[0].toNat : Int) ≤ hi
  case neg =>
    go_enter Tryz.func89, Tryz.ntmps89
    go_wp2_with fail
    all_goals first | (exfalso; omega) | skip
    all_goals go_ret
    all_goals exact ⟨ret_bool (by rw [hn.out]; simp; omega), rfl⟩
  have hn' : T.named s.data.toList lo hi = okTo s.data.toList s.size := by rw [hn.out]; simp [hlo, hhi]
  have HN := Lib.hid hn'
  clear hn hn'
  go_enter Tryz.func89, Tryz.ntmps89
  go_wp2_with fail
  all_goals first | (exfalso; omega) | skip
  go_loop [7] (fun i => ∃ k : Nat, 1 ≤ k ∧ k ≤ s.size ∧ i = .int .i64 k ∧ Hid (okTo s.data.toList k = true)) (fun i => s.size - (intOf i).toNat)
  case atStart => exact ⟨1, by omega, by omega, rfl, okTo_one _⟩
  case round =>
    obtain ⟨k, hk1, hk, rfl, hok⟩ := hrel
    by_cases hlt : k < s.size
    · have HS := Lib.hid (okTo_succ s k hlt hk1)
      have HF := Lib.hid (okTo_false s k hlt hk1)
      go_wp2_with fail
      all_goals first
        | (go_ret
           exact ⟨ret_bool (by rw [HN.out, HF.out (inner_false (by omega))]), rfl⟩)
        | (go_round
           case rel => exact ⟨k + 1, by omega, by omega, by go_num, show okTo s.data.toList (k + 1) = true by rw [HS.out, hok.out, inner_true (by omega)]; rfl⟩
           case measure => simp [intOf]; omega)
    · go_wp2_with fail
      go_ret
      obtain rfl : k = s.size := by omega
      exact ⟨ret_bool (by rw [HN.out, hok.out]), rfl⟩
end Go.Proofs.YtboondbognbnnaaGreatDoor
