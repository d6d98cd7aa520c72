/- Package term: Class, Size, by contract. Package term: the walk of the counter. Package term: Size, great. -/
import Derived.Test.YtpfkhdlnjefikaaGreatDoorProg
import Derived.Test.YtpfkhdlnjefikaaGreatDoorMMemA
import Derived.WalkLawsBesides
import Derived.WalkSpells
import Derived.KernelRfl
import Derived.Deep.QuietTactic
import Derived.BigQuiet
import Derived.Lib.Hide
set_option linter.unusedVariables false
set_option linter.unusedSimpArgs false
namespace Go.Proofs.YtpfkhdlnjefikaaGreatDoor
open Go.RowKit
theorem ret_int {k : IntKind} {a b : Int} (h : a = b) : Ending.returned (.int k a) = .returned (.int k b) := by rw [h]
theorem bcell {W w1 : World} (hb : Below W.heap.size W w1) : (∀ b o, b < W.heap.size → w1.cell? ⟨b, o, none⟩ = W.cell? ⟨b, o, none⟩) ∧ (∀ b o, b < W.heap.size → w1.frozen? ⟨b, o, none⟩ = W.frozen? ⟨b, o, none⟩) :=
 ⟨fun b o h => hb.cell (p := ⟨b, o, none⟩) h, fun b o h => hb.frozen (p := ⟨b, o, none⟩) h⟩
theorem class_calls (x : TV) (w : World) : Calls Tryz.prog 32 #[x.val] w fun e w' => e = .returned (.int .i64 (T.cls x.kind)) ∧ Below w.heap.size w w' := by
 obtain ⟨kind, text, n, sa, sl, sc, aa, al, ac, ka, kl, kc⟩ := x
 simp only [TV.val, TV.cells]
 go_enter Tryz.func32, Tryz.ntmps32
 go_wp2_with fail
 all_goals go_ret
 all_goals exact ⟨ret_int (by unfold T.cls; (repeat' split) <;> omega), (Below.refl _ _).alloc (Nat.le_refl _) _⟩
/-- the sums over the first so many kids -/
def T.sumN (l : List T) (i : Nat) : Nat := T.nodesL (l.take i)
def T.maxH (l : List T) (i : Nat) : Nat := T.heightL (l.take i)
theorem T.nodesL_append (l r : List T) : T.nodesL (l ++ r) = T.nodesL l + T.nodesL r := by
 induction l with
 | nil => simp [T.nodesL]
 | cons t l ih => simp only [List.cons_append, T.nodesL, ih]; omega
theorem T.heightL_append (l r : List T) : T.heightL (l ++ r) = max (T.heightL l) (T.heightL r) := by
 induction l with
 | nil => simp [T.heightL]
 | cons t l ih => simp only [List.cons_append, T.heightL, ih]; omega
theorem T.sumN_succ {l : List T} {k : Nat} {u : T} (h : l[k]? = some u) : T.sumN l (k + 1) = T.sumN l k + u.nodes := by
 simp only [T.sumN, List.take_add_one, h, Option.toList, T.nodesL_append, T.nodesL]; omega
theorem T.maxH_succ {l : List T} {k : Nat} {u : T} (h : l[k]? = some u) : T.maxH l (k + 1) = max (T.maxH l k) u.height := by
 simp only [T.maxH, List.take_add_one, h, Option.toList, T.heightL_append, T.heightL]; omega
theorem T.sumN_all (l : List T) {k : Nat} (h : l.length ≤ k) : T.sumN l k = T.nodesL l := by rw [T.sumN, List.take_of_length_le h]
theorem T.maxH_all (l : List T) {k : Nat} (h : l.length ≤ k) : T.maxH l k = T.heightL l := by rw [T.maxH, List.take_of_length_le h]
theorem T.sumN_le (l : List T) (k : Nat) : T.sumN l k ≤ T.nodesL l := by
 have := T.nodesL_append (l.take k) (l.drop k)
 rw [List.take_append_drop] at this
 simp only [T.sumN]; omega
theorem T.maxH_le (l : List T) (k : Nat) : T.maxH l k ≤ T.heightL l := by
 have := T.heightL_append (l.take k) (l.drop k)
 rw [List.take_append_drop] at this
 simp only [T.maxH]; omega
/-- what a count comes to: behind a term of so many nodes, so deep -/
def AddPost (w : World) (cb : Nat) (a m d : Int) (N H : Nat) (e : Ending) (w' : World) : Prop :=
 ∃ a' m' : Int, w.grownBy w' (some cb) ∧ w'.cell? ⟨cb, 0, none⟩ = some (.int .i64 a') ∧ w'.cell? ⟨cb, 1, none⟩ = some (.int .i64 m') ∧ (∀ o, w'.frozen? ⟨cb, o, none⟩ = false) ∧
   ((a + N ≤ 4096 ∧ d + H ≤ 257 ∧ e = .returned (.bool true) ∧ a' = a + N ∧ m' = max m (d + H - 1)) ∨ (¬ (a + N ≤ 4096 ∧ d + H ≤ 257) ∧ e = .returned (.bool false)))
/-- at a round's head -/
def AddRel (w : World) (cb : Nat) (a m d : Int) (l : List T) (k : Nat) (wr : World) : Prop :=
 w.grownBy wr (some cb) ∧ wr.cell? ⟨cb, 0, none⟩ = some (.int .i64 (a + 1 + T.sumN l k)) ∧ wr.cell? ⟨cb, 1, none⟩ = some (.int .i64 (max m (d + T.maxH l k))) ∧ (∀ o, wr.frozen? ⟨cb, o, none⟩ = false) ∧
   a + 1 + T.sumN l k ≤ 4096 ∧ d + T.maxH l k ≤ 256
theorem grown_set (w : World) (cb o : Nat) (v : Value) : w.grownBy (w.setCell ⟨cb, o, none⟩ v) (some cb) :=
 ⟨rfl, rfl, rfl, by simp [World.setCell], fun k _ hne => Below.heap_setCell w ⟨cb, o, none⟩ v k (fun e => hne (by rw [e]))⟩
/-- the contract of add, at every place and in every world -/
def AddAll (t : T) : Prop := ∀ (x : TV) (tb to cb B : Nat) (a m d : Int) (w : World), Rep w B t x → At w tb to x → tb ≠ cb → B ≤ cb → B ≤ w.heap.size → w.cell? ⟨cb, 0, none⟩ = some (.int .i64 a) → w.cell? ⟨cb, 1, none⟩ = some (.int .i64 m) →
   (∀ o, w.frozen? ⟨cb, o, none⟩ = false) → 0 ≤ a → a ≤ 4096 → 1 ≤ d → d ≤ 257 → 0 ≤ m → m ≤ 257 →
   Calls Tryz.prog 58 #[.pointer (some ⟨cb, 0, none⟩), .pointer (some ⟨tb, to, none⟩), .int .i64 d] w (AddPost w cb a m d t.nodes t.height)
theorem add_start {w : World} {cb : Nat} {a m d M : Int} {l : List T} (hc0 : w.cell? ⟨cb, 0, none⟩ = some (.int .i64 a)) (hc1 : w.cell? ⟨cb, 1, none⟩ = some (.int .i64 m)) (hf : ∀ o, w.frozen? ⟨cb, o, none⟩ = false)
   (hM : M = max m d) (ha : a + 1 ≤ 4096) (hd : d ≤ 256) : AddRel w cb a m d l 0 ((w.setCell ⟨cb, 0, none⟩ (.int .i64 (a + 1))).setCell ⟨cb, 1, none⟩ (.int .i64 M)) := by
 have z1 : T.sumN l 0 = 0 := by simp [T.sumN, T.nodesL]
 have z2 : T.maxH l 0 = 0 := by simp [T.maxH, T.heightL]
 have g1 := grown_set w cb 0 (.int .i64 (a + 1))
 have g2 := grown_set (w.setCell ⟨cb, 0, none⟩ (.int .i64 (a + 1))) cb 1 (.int .i64 M)
 have g := g1.trans g2
 refine ⟨g, ?_, ?_, ?_, by rw [z1]; simpa using ha, by rw [z2]; simpa using hd⟩
 · rw [z1]; simp [hc0, go_sem]
 · rw [z2, hM]; simp [hc1, go_sem]
 · intro o; simp [hf, go_sem]
theorem add_early {w : World} {cb : Nat} {a m d M : Int} {N H : Nat} (hc0 : w.cell? ⟨cb, 0, none⟩ = some (.int .i64 a)) (hc1 : w.cell? ⟨cb, 1, none⟩ = some (.int .i64 m)) (hf : ∀ o, w.frozen? ⟨cb, o, none⟩ = false)
   (hbig : 4096 < a + 1 ∨ 256 < d) : AddPost w cb a m d (1 + N) (1 + H) (.returned (.bool false)) ((w.setCell ⟨cb, 0, none⟩ (.int .i64 (a + 1))).setCell ⟨cb, 1, none⟩ (.int .i64 M)) := by
 have g1 := grown_set w cb 0 (.int .i64 (a + 1))
 have g2 := grown_set (w.setCell ⟨cb, 0, none⟩ (.int .i64 (a + 1))) cb 1 (.int .i64 M)
 refine ⟨a + 1, M, g1.trans g2, ?_, ?_, ?_, .inr ⟨by omega, rfl⟩⟩
 · simp [hc0, go_sem]
 · simp [hc1, go_sem]
 · intro o; simp [hf, go_sem]
end Go.Proofs.YtpfkhdlnjefikaaGreatDoor
namespace Go.Proofs.YtpfkhdlnjefikaaGreatDoor
open Go.RowKit
theorem AddPost.ends {w : World} {cb : Nat} {a m d : Int} {N H : Nat} {e : Ending} {w' : World} (h : AddPost w cb a m d N H e w') : e = .returned (.bool true) ∨ e = .returned (.bool false) := by
 obtain ⟨_, _, _, _, _, _, ⟨_, _, h, _⟩ | ⟨_, h⟩⟩ := h
 · exact .inl h
 · exact .inr h
theorem add_next {w wr w' : World} {cb : Nat} {a m d : Int} {l : List T} {k : Nat} {u : T} (hu : l[k]? = some u) (h : AddRel w cb a m d l k wr) (h5 : 0 ≤ m)
   (hp : AddPost wr cb (a + 1 + T.sumN l k) (max m (d + T.maxH l k)) (d + 1) u.nodes u.height (.returned (.bool true)) w') : AddRel w cb a m d l (k + 1) w' := by
 obtain ⟨a', m', g', c0, c1, f', hh⟩ := hp
 obtain ⟨g, _, _, _, _, _⟩ := h
 rcases hh with ⟨q1, q2, _, rfl, rfl⟩ | ⟨_, e⟩
 · have s1 := T.sumN_succ hu
   have s2 := T.maxH_succ hu
   have hp := T.height_pos u
   refine ⟨g.trans g', ?_, ?_, f', by omega, by omega⟩
   · rw [c0, s1]; congr 2; omega
   · rw [c1, s2]; congr 2; omega
 · cases e
theorem add_fails {w wr w' : World} {cb : Nat} {a m d : Int} {l : List T} {k : Nat} {u : T} (hu : l[k]? = some u) (h : AddRel w cb a m d l k wr)
   (hp : AddPost wr cb (a + 1 + T.sumN l k) (max m (d + T.maxH l k)) (d + 1) u.nodes u.height (.returned (.bool false)) w') :
   AddPost w cb a m d (1 + T.nodesL l) (1 + T.heightL l) (.returned (.bool false)) w' := by
 obtain ⟨a', m', g', c0, c1, f', hh⟩ := hp
 obtain ⟨g, _, _, _, _, _⟩ := h
 refine ⟨a', m', g.trans g', c0, c1, f', .inr ⟨?_, rfl⟩⟩
 rcases hh with ⟨_, _, e, _⟩ | ⟨hn, _⟩
 · cases e
 · have s1 := T.sumN_succ hu
   have s2 := T.maxH_succ hu
   have l1 := T.sumN_le l (k + 1)
   have l2 := T.maxH_le l (k + 1)
   omega
theorem add_ends {w wr : World} {cb : Nat} {a m d : Int} {l : List T} {k : Nat} (h : AddRel w cb a m d l k wr) (hk : l.length ≤ k) (h3 : 1 ≤ d) :
   AddPost w cb a m d (1 + T.nodesL l) (1 + T.heightL l) (.returned (.bool true)) wr := by
 obtain ⟨g, c0, c1, f, q1, q2⟩ := h
 rw [T.sumN_all l hk] at c0 q1
 rw [T.maxH_all l hk] at c1 q2
 refine ⟨_, _, g, c0, c1, f, .inl ⟨by omega, by omega, rfl, by omega, by omega⟩⟩
set_option maxHeartbeats 2000000 in
theorem add_all (t : T) : AddAll t := by
 refine T.ind (P := AddAll) ?_ t
 intro k s n sh at_ l ih x tb to cb B a m d w hr hat hne hB hBw hc0 hc1 hf h1 h2 h3 h4 h5 h6
 obtain ⟨t0, t1, t2, t3, t4, t5⟩ := hat
 have hN : (T.mk k s n sh at_ l).nodes = 1 + T.nodesL l := by simp [T.nodes]
 have hH : (T.mk k s n sh at_ l).height = 1 + T.heightL l := by simp [T.height]
 rw [hN, hH]
 clear hN hH
 have hkl := hr.kl
 have hwee := hr.wee
 simp only [T.kids_mk] at hkl
 have hk1 : x.kl ≤ 2199023255552 := hwee.l1
 have HKL := hid hkl
 clear hkl t0 t1 t2 t3 t4
 have hcbw := World.block_lt_of_cell? w _ hc0
 have htbw := World.block_lt_of_cell? w _ t5
 by_cases hbig : 4096 < a + 1 ∨ 256 < d
 · have hE := fun M : Int => add_early (N := T.nodesL l) (H := T.heightL l) (M := M) hc0 hc1 hf hbig
   have HE := hid hE
   clear hE
   by_cases hmd : m < d
   all_goals
     go_enter Tryz.func58, Tryz.ntmps58
     go_wp2_with fail
   all_goals first
     | (go_ret; exact HE.out _)
     | (exfalso; omega)
 · have ha : a + 1 ≤ 4096 := by omega
   have hd : d ≤ 256 := by omega
   have hS := fun (M : Int) (hM : M = max m d) => add_start (l := l) hc0 hc1 hf hM ha hd
   have HS := hid hS
   clear hS
   by_cases hmd : m < d
   all_goals
     have hM : (if m < d then d else m) = max m d := by split <;> omega
     have HM := hid hM
     clear hM
     go_enter Tryz.func58, Tryz.ntmps58
     go_wp2_with fail
     go_loopw [38] (fun i wr => ∃ k : Nat, k ≤ x.kl ∧ i = .int .i64 k ∧ AddRel w cb a m d l k wr) (fun i _ => x.kl - (intOf i).toNat)
     case atStart => exact ⟨0, Nat.zero_le _, rfl, HS.out _ (by omega)⟩
     case round =>
       obtain ⟨i, hi, rfl, hrel⟩ := hrel
       by_cases hlt : i < x.kl
       · obtain ⟨u, hu⟩ : ∃ u, l[i]? = some u := ⟨l[i]'(by rw [← HKL.out]; exact hlt), by simp⟩
         obtain ⟨b, o, y, he, hb, hat, hru⟩ := hr.kid (t := T.mk k s n sh at_ l) (j := i) hu
         have hg := hrel.1
         have hkeep : Keeps B w wr := Keeps.of_grown hg hBw (fun g e => by injection e with e; omega)
         have hat' := hat.keep hb hkeep
         have hru' := Rep.keep hkeep u y hru
         have t5' : wr.cell? ⟨tb, to + 5, none⟩ = some (.slice (some ⟨b, o, none⟩) x.kl x.kc) := by
           rw [hg.cell t5 (by simpa using hne), he]
         have IH := hid (ih u (List.mem_of_getElem? hu))
         have HR := hid hrel
         have HU := hid hu
         clear hu he hrel t5
         have b1 := HR.out.2.2.2.2.1
         have b2 := HR.out.2.2.2.2.2
         go_wp2_with fail
         refine (IH.out y b (o + i * 6) cb B (a + 1 + T.sumN l i) (max m (d + T.maxH l i)) (d + 1) wr hru' hat' (by omega) hB (Nat.le_trans hBw hg.size) HR.out.2.1 HR.out.2.2.1 HR.out.2.2.2.1 (by omega) (by omega) (by omega) (by omega) (by omega) (by omega)).mono ?_
         intro e w' hp
         have HP := hid hp
         rcases hp.ends with rfl | rfl
         all_goals
           clear hp
           go_wp2_with fail
         · go_roundw
           case rel => exact ⟨i + 1, by omega, by go_num, add_next HU.out HR.out h5 HP.out⟩
           case measure => simp [intOf]; omega
         · go_ret
           exact add_fails HU.out HR.out HP.out
       · have hik : l.length ≤ i := by rw [← HKL.out]; omega
         have HR := hid hrel
         clear hrel
         go_wp2_with fail
         go_ret
         exact add_ends HR.out hik h3
end Go.Proofs.YtpfkhdlnjefikaaGreatDoor
namespace Go.Proofs.YtpfkhdlnjefikaaGreatDoor
open Go.RowKit
/-- A term's six cells, laid into a block of their own. -/
theorem At.boxed (w : World) (x : TV) (ty : TypeId) : At (w.alloc (.cells x.cells ty)) w.heap.size 0 x := by
 constructor <;> simp [TV.cells]
/-- what a whole count comes to -/
theorem count_ends {t : T} {W w' : World} {cb : Nat} {e : Ending} (h : AddPost W cb 0 0 1 t.nodes t.height e w') :
   (e = .returned (.bool true) ∧ t.fits ∧ w'.cell? ⟨cb, 0, none⟩ = some (.int .i64 (t.sizeN : Int)) ∧ w'.cell? ⟨cb, 1, none⟩ = some (.int .i64 (t.sizeD : Int)) ∧ W.grownBy w' (some cb)) ∨
     (e = .returned (.bool false) ∧ ¬ t.fits ∧ W.grownBy w' (some cb)) := by
 obtain ⟨a', m', g, c0, c1, f, ⟨h1, h2, he, ha, hm⟩ | ⟨hn, he⟩⟩ := h
 · have hf : t.fits := ⟨by omega, by omega⟩
   refine .inl ⟨he, hf, ?_, ?_, g⟩
   · rw [c0, ha, T.sizeN, if_pos hf]; simp
   · rw [c1, hm, T.sizeD, if_pos hf]
     congr 2
     have := T.height_pos t
     omega
 · refine .inr ⟨he, fun hf => hn ⟨by have := hf.1; omega, by have := hf.2; omega⟩, g⟩
theorem below_grown {B : Nat} {a w w' : World} {cb : Nat} (h : Below B a w) (hg : w.grownBy w' (some cb)) (hB : B ≤ w.heap.size) (hc : B ≤ cb) : Below B a w' :=
 h.grown hg hB (fun k hk => by injection hk with hk; omega)
set_option maxHeartbeats 1000000 in
theorem size_calls (t : T) (x : TV) (B : Nat) (w : World) (hr : Rep w B t x) (hB : B ≤ w.heap.size) :
   Calls Tryz.prog 35 #[x.val] w fun e w' => e = .returned (.tuple #[.int .i64 (t.sizeN : Int), .int .i64 (t.sizeD : Int)]) ∧ Below w.heap.size w w' := by
 have hb1 : Below w.heap.size w (w.alloc (.cells x.cells 34)) := (Below.refl w.heap.size w).alloc (Nat.le_refl _) _
 have hb2 : Below w.heap.size w ((w.alloc (.cells x.cells 34)).alloc (.cells #[.int .i64 0, .int .i64 0] 109)) := hb1.alloc hb1.size _
 have hat := (At.boxed w x 34).keep (B := w.heap.size + 1) (w' := (w.alloc (.cells x.cells 34)).alloc (.cells #[.int .i64 0, .int .i64 0] 109)) (by omega)
   (Keeps.of_below (B := (w.alloc (.cells x.cells 34)).heap.size) ((Below.refl _ _).alloc (Nat.le_refl _) _) (by simp))
 have hr1 := Rep.below hr hb2 hB
 have hadd := add_all t x w.heap.size 0 (w.heap.size + 1) B 0 0 1 _ hr1 hat (by omega) (by omega) (by simp; omega) (by simp) (by simp) (by intro o; simp) (by omega) (by omega) (by omega) (by omega) (by omega) (by omega)
 have HA := hid hadd
 clear hadd hat
 simp only [TV.val]
 go_enter Tryz.func35, Tryz.ntmps35
 go_wp2_with fail
 refine HA.out.mono ?_
 intro e w1 hp
 rcases count_ends hp with ⟨rfl, hf, c0, c1, g⟩ | ⟨rfl, hf, g⟩
 · have hbw := below_grown hb2 g (by simp; omega) (by omega)
   clear hp
   go_wp2_with fail
   go_quiet (fail)
   go_wp2_with fail
   go_ret2
   exact ⟨rfl, below_drewN hbw _⟩
 · have e1 : t.sizeN = 4097 := by rw [T.sizeN, if_neg hf]
   have e2 : t.sizeD = 257 := by rw [T.sizeD, if_neg hf]
   have hbw := below_grown hb2 g (by simp; omega) (by omega)
   clear hp
   have E1 := hid e1
   have E2 := hid e2
   clear e1 e2
   go_wp2_with fail
   go_ret2
   exact ⟨by rw [E1.out, E2.out]; rfl, hbw⟩
theorem great_calls (t : T) (x : TV) (B : Nat) (w : World) (hr : Rep w B t x) (hB : B ≤ w.heap.size) :
   Calls Tryz.prog 30 #[x.val] w fun e w' => e = .returned (.bool (decide (4096 < (t.sizeN : Int)))) ∧ Below w.heap.size w w' := by
 have hb1 : Below w.heap.size w (w.alloc (.cells x.cells 34)) := (Below.refl w.heap.size w).alloc (Nat.le_refl _) _
 have hs := size_calls t x B _ (Rep.below hr hb1 hB) (by simp; omega)
 simp only [TV.val, TV.cells] at hs hb1 ⊢
 have HS := hid hs
 clear hs
 go_enter Tryz.func30, Tryz.ntmps30
 go_wp2_with fail
 refine HS.out.mono ?_
 rintro e w1 ⟨rfl, hb⟩
 go_wp2_with fail
 go_ret
 exact ⟨rfl, hb1.trans (hb.mono (by simp))⟩
end Go.Proofs.YtpfkhdlnjefikaaGreatDoor
