/- Package shape, package arr: what May and Size answer of whatever lengths. Package shape: count, Size; package arr: May; the laws' own comparisons of lists and arrays that are the same. -/
import Derived.Test.YtboondbognbnnaaGreatDoorQTermF
import Derived.Deep.Cut
import Derived.Deep.QuietTactic
import Derived.BigQuiet
set_option linter.unusedVariables false
set_option linter.unusedSimpArgs false
namespace Go.Proofs.YtboondbognbnnaaGreatDoor
open Go.RowKit
structure Boxd (w : World) (b : Nat) (cs : Array Value) : Prop where
  cell : ∀ (i : Nat) (v : Value), cs[i]? = some v → w.cell? ⟨b, i, none⟩ = some v
  fz : ∀ o, w.frozen? ⟨b, o, none⟩ = false
  lt : b < w.heap.size
theorem Boxd.new (w : World) (cs : Array Value) (ty : TypeId) : Boxd (w.alloc (.cells cs ty)) w.heap.size cs := by
  have k : (w.alloc (.cells cs ty)).heap[w.heap.size]? = some (.cells cs ty (0, 0)) := heap_alloc_new w _
  exact ⟨fun i v hv => by rw [Lib.cell_of_heap k]; exact hv, fun o => Lib.frozen_of_heap k o, by simp⟩
theorem Boxd.kept {w w' : World} {b : Nat} {cs : Array Value} (h : Boxd w b cs) (hk : w'.heap[b]? = w.heap[b]?) (hs : w.heap.size ≤ w'.heap.size) : Boxd w' b cs :=
  ⟨fun i v hv => (World.cell?_of_block (a := ⟨b, i, none⟩) hk).trans (h.cell i v hv), fun o => (World.frozen?_of_block (a := ⟨b, o, none⟩) hk).trans (h.fz o), Nat.lt_of_lt_of_le h.lt hs⟩
theorem Boxd.later {w w' : World} {b : Nat} {cs : Array Value} (h : Boxd w b cs) (hb : Below w.heap.size w w') : Boxd w' b cs := h.kept (hb.block b h.lt) hb.size
/-- an array in memory: lengths and atoms -/
structure AV where
  sa : Option Addr
  sl : Nat
  sc : Nat
  aa : Option Addr
  al : Nat
  ac : Nat
def AV.cells (x : AV) : Array Value := #[.slice x.sa x.sl x.sc, .slice x.aa x.al x.ac]
def AV.val (x : AV) : Value := .agg x.cells
theorem wrap_succ {n : Nat} (h : n ≤ 281474976710656) : wrap64 ((n : Int) + 1) = ((n + 1 : Nat) : Int) := by
  unfold wrap64
  omega
theorem sm_meas {L : Nat} {a b : Int} (h : b < a) (h0 : 0 ≤ b) (hL : b < (L : Int)) : L - (intOf (.int .i64 a)).toNat < L - (intOf (.int .i64 b)).toNat := by simp only [intOf]; omega
theorem ints_cell {w : World} {B len : Nat} {A : Option Addr} {xs : List Int} (h : Ints w B A len xs) {k : Nat} {v : Int} (hv : xs[k]? = some v) : ∃ b o, A = some ⟨b, o, none⟩ ∧ b < B ∧ w.cell? ⟨b, o + k, none⟩ = some (.int .i64 v) := by
  have hlt := (List.getElem?_eq_some_iff.1 hv).1
  obtain ⟨b, o, e, hb, hc⟩ := h.2 (by have := h.1; omega)
  exact ⟨b, o, e, hb, hc k v hv⟩
theorem neg_calls (n : Int) (w : World) : Calls Tryz.prog 97 #[.int .i64 n] w fun e w' => e = .returned (.bool (decide (n < 0))) ∧ w' = w := by
  go_enter Tryz.func97, Tryz.ntmps97
  go_wp2_with fail
  go_ret
  exact ⟨rfl, rfl⟩
/-- is there a length below 0? -/
def anyNeg (xs : List Int) : Bool := xs.any fun n => decide (n < 0)
theorem anyNeg_take {xs : List Int} {k : Nat} {v : Int} (h : xs[k]? = some v) (hv : decide (v < 0) = false) (hp : anyNeg (xs.take k) = false) : anyNeg (xs.take (k + 1)) = false := by
  rw [List.take_add_one, h]
  unfold anyNeg at hp ⊢
  rw [List.any_append, hp]
  simpa using hv
theorem anyNeg_found {xs : List Int} {k : Nat} {v : Int} (h : xs[k]? = some v) (hv : decide (v < 0) = true) : anyNeg xs = true :=
  List.any_eq_true.2 ⟨v, List.mem_of_getElem? h, hv⟩
set_option maxRecDepth 100000 in
theorem index_calls {B len cap : Nat} {A : Option Addr} {xs : List Int} {w : World} (h : Ints w B A len xs) (hl : len ≤ 17592186044416) :
    Calls Tryz.prog 129 #[.slice A len cap, .func (.func 97) #[] #[]] w fun e w' => ∃ r : Int, e = .returned (.int .i64 r) ∧ decide (0 ≤ r) = anyNeg xs ∧ w' = w := by
  have H := Lib.hid h
  have hlen := h.1
  clear h
  have h0 : (0 : Int) ≤ (len : Int) := Int.natCast_nonneg _
  go_enter Tryz.func129, Tryz.ntmps129
  go_wp2_with fail
  go_loopw [8] (fun i wr => ∃ k : Nat, k ≤ len ∧ i = .int .i64 k ∧ anyNeg (xs.take k) = false ∧ wr = w) (fun i _ => len - (intOf i).toNat)
  case atStart => exact ⟨0, Nat.zero_le _, rfl, rfl, rfl⟩
  case round =>
    obtain ⟨k, hk, rfl, hn, hwr⟩ := hrel
    subst hwr
    have HN := Lib.hid hn
    clear hn
    have k0 : (0 : Int) ≤ (k : Int) := Int.natCast_nonneg _
    by_cases hlt : k < len
    · have k1 : (k : Int) < (len : Int) := Int.ofNat_lt.2 hlt
      have hw : wrap64 ((k : Int) + 1) = ((k + 1 : Nat) : Int) := wrap_succ (by omega)
      obtain ⟨v, hv⟩ : ∃ v, xs[k]? = some v := ⟨xs[k]'(by omega), by simp⟩
      obtain ⟨b, o, rfl, hb, hc⟩ := ints_cell H.out hv
      have HV := Lib.hid hv
      clear hv
      cases hd : decide (v < 0)
      · have HA := Lib.hid (anyNeg_take HV.out hd HN.out)
        go_wp2_with (go_at_call 97; refine (neg_calls _ _).mono ?_; rintro e w' ⟨rfl, rfl⟩)
        go_roundw
        case rel => exact ⟨k + 1, hlt, by go_num, HA.out, trivial⟩
        case measure => exact sm_meas (by first | exact Int.lt_succ _ | (rw [hw]; exact Int.lt_succ _)) k0 k1
      · have HA := Lib.hid (anyNeg_found HV.out hd)
        go_wp2_with (go_at_call 97; refine (neg_calls _ _).mono ?_; rintro e w' ⟨rfl, rfl⟩)
        go_ret
        exact ⟨k, rfl, by rw [HA.out]; simp, rfl⟩
    · have k1 : ¬ (k : Int) < (len : Int) := by omega
      have hx : xs.take k = xs := List.take_of_length_le (by omega)
      have HA := Lib.hid (show anyNeg xs = false from hx ▸ HN.out)
      clear hx
      go_wp2_with fail
      go_ret
      exact ⟨-1, rfl, by rw [HA.out]; rfl, rfl⟩
theorem none_calls {B len cap : Nat} {A : Option Addr} {xs : List Int} {w : World} (h : Ints w B A len xs) (hl : len ≤ 17592186044416) :
    Calls Tryz.prog 96 #[.slice A len cap, .func (.func 97) #[] #[]] w fun e w' => e = .returned (.bool (anyNeg xs)) ∧ w' = w := by
  have H := Lib.hid (index_calls (cap := cap) h hl)
  clear h hl
  go_enter Tryz.func96, Tryz.ntmps96
  go_wp2_with (go_at_call 129; refine H.out.mono ?_; rintro e w' ⟨r, rfl, hr, rfl⟩)
  go_ret
  exact ⟨by rw [← hr]; rfl, rfl⟩
/-- how the lengths are gone over -/
def smayF (n : Int) : List Int → Int
  | [] => 0
  | k :: l => if 4096 < k then 17 else if 4096 < n * (if k < 1 then 1 else k) then 17 else smayF (n * (if k < 1 then 1 else k)) l
def smay (xs : List Int) : Int := if anyNeg xs = true then 1 else if 8 < (xs.length : Int) then 17 else smayF 1 xs
theorem smayF_step {n : Int} {xs : List Int} {k : Nat} {v : Int} (h : xs[k]? = some v) : smayF n (xs.drop k) = if 4096 < v then 17 else if 4096 < n * (if v < 1 then 1 else v) then 17 else smayF (n * (if v < 1 then 1 else v)) (xs.drop (k + 1)) := by
  have : xs.drop k = v :: xs.drop (k + 1) := by
    obtain ⟨hlt, rfl⟩ := List.getElem?_eq_some_iff.1 h
    exact (List.drop_eq_getElem_cons hlt)
  rw [this]
  rfl
set_option maxRecDepth 100000 in
set_option maxHeartbeats 1000000 in
theorem smay_calls {B len cap : Nat} {A : Option Addr} {xs : List Int} {w : World} (h : Ints w B A len xs) (hl : len ≤ 17592186044416) :
    Calls Tryz.prog 63 #[.slice A len cap] w fun e w' => e = .returned (.int .i64 (smay xs)) ∧ w' = w := by
  have H := Lib.hid h
  have HC := Lib.hid (none_calls (cap := cap) h hl)
  have hlen := h.1
  clear h
  have h0 : (0 : Int) ≤ (len : Int) := Int.natCast_nonneg _
  cases hneg : anyNeg xs
  case true =>
    have HS := Lib.hid (show smay xs = 1 from by unfold smay; rw [if_pos hneg])
    rw [hneg] at HC
    clear hneg
    go_enter Tryz.func63, Tryz.ntmps63
    go_wp2_with (go_at_call 96; refine HC.out.mono ?_; rintro e w' ⟨rfl, rfl⟩)
    go_ret
    exact ⟨by rw [HS.out]; rfl, rfl⟩
  rw [hneg] at HC
  by_cases h8 : (8 : Int) < (len : Int)
  · have HS := Lib.hid (show smay xs = 17 from by unfold smay; rw [if_neg (by rw [hneg]; decide), if_pos (by rw [hlen]; exact h8)])
    clear hneg
    go_enter Tryz.func63, Tryz.ntmps63
    go_wp2_with (go_at_call 96; refine HC.out.mono ?_; rintro e w' ⟨rfl, rfl⟩)
    go_ret
    exact ⟨by rw [HS.out]; rfl, rfl⟩
  have HS := Lib.hid (show smay xs = smayF 1 xs from by unfold smay; rw [if_neg (by rw [hneg]; decide), if_neg (by rw [hlen]; exact h8)])
  clear hneg
  have hl8 : len ≤ 8 := by omega
  go_enter Tryz.func63, Tryz.ntmps63
  go_wp2_with (go_at_call 96; refine HC.out.mono ?_; rintro e w' ⟨rfl, rfl⟩)
  clear HC h8
  go_loopw [3, 13] (fun v i wr => ∃ (k : Nat) (n : Int), k ≤ len ∧ i = .int .i64 k ∧ v = .int .i64 n ∧ 1 ≤ n ∧ n ≤ 4096 ∧ smayF 1 xs = smayF n (xs.drop k) ∧ wr = w') (fun _ i _ => len - (intOf i).toNat)
  case atStart => exact ⟨0, 1, Nat.zero_le _, rfl, rfl, by omega, by omega, rfl, rfl⟩
  case round =>
    obtain ⟨k, n, hk, rfl, rfl, hn1, hn2, hs, hwr⟩ := hrel
    subst hwr
    have HR := Lib.hid hs
    clear hs
    have k0 : (0 : Int) ≤ (k : Int) := Int.natCast_nonneg _
    by_cases hlt : k < len
    · have k1 : (k : Int) < (len : Int) := Int.ofNat_lt.2 hlt
      have hw : wrap64 ((k : Int) + 1) = ((k + 1 : Nat) : Int) := wrap_succ (by omega)
      obtain ⟨v, hv⟩ : ∃ v, xs[k]? = some v := ⟨xs[k]'(by omega), by simp⟩
      obtain ⟨b, o, rfl, hb, hc⟩ := ints_cell H.out hv
      have HST := Lib.hid (smayF_step (n := n) hv)
      clear hv
      by_cases h1 : 4096 < v
      · have HE := Lib.hid (show smay xs = 17 from by rw [HS.out, HR.out, HST.out, if_pos h1])
        go_wp2_with fail
        go_ret
        exact ⟨by rw [HE.out]; rfl, rfl⟩
      · have hv1 : 1 ≤ (if v < 1 then 1 else v) ∧ (if v < 1 then 1 else v) ≤ 4096 := by split <;> omega
        generalize hm : (if v < 1 then 1 else v) = m at HST hv1
        have hq1 : 1 ≤ n * m := by
          have := Int.mul_le_mul hn1 hv1.1 (by omega) (by omega)
          omega
        have hq2 : n * m ≤ 16777216 := by
          have := Int.mul_le_mul hn2 hv1.2 (by omega) (by omega)
          omega
        have hmw : wrap64 (n * m) = n * m := by unfold wrap64; omega
        by_cases h2 : 4096 < n * m
        · have HE := Lib.hid (show smay xs = 17 from by rw [HS.out, HR.out, HST.out, if_neg h1, if_pos h2])
          have h2' : 4096 < wrap64 (n * m) := by rw [hmw]; exact h2
          go_wp2_with fail
          go_ret
          exact ⟨by rw [HE.out]; rfl, rfl⟩
        · have HN := Lib.hid (show smayF 1 xs = smayF (n * m) (xs.drop (k + 1)) from by rw [HR.out, HST.out, if_neg h1, if_neg h2])
          have h2' : ¬ 4096 < wrap64 (n * m) := by rw [hmw]; exact h2
          go_wp2_with fail
          go_roundw
          case rel => exact ⟨k + 1, n * m, hlt, by go_num, by first | rfl | rw [hmw], hq1, by omega, HN.out, trivial⟩
          case measure => exact sm_meas (by first | exact Int.lt_succ _ | (rw [hw]; exact Int.lt_succ _)) k0 k1
    · have k1 : ¬ (k : Int) < (len : Int) := by omega
      have hx : xs.drop k = [] := List.drop_of_length_le (by omega)
      have HE := Lib.hid (show smay xs = 0 from by rw [HS.out, HR.out, hx]; rfl)
      clear hx
      go_wp2_with fail
      go_ret
      exact ⟨by rw [HE.out]; rfl, rfl⟩
/-- an array in memory, below block B: its lengths and its atoms -/
structure ARep (w : World) (B : Nat) (sh at_ : List Int) (x : AV) : Prop where
  s : Ints w B x.sa x.sl sh
  a : Ints w B x.aa x.al at_
  s1 : x.sl ≤ x.sc
  a1 : x.al ≤ x.ac
  s2 : x.sc ≤ maxLen
  a2 : x.ac ≤ maxLen
theorem ARep.keep {w w' : World} {B : Nat} {sh a : List Int} {x : AV} (h : ARep w B sh a x) (hk : Keeps B w w') : ARep w' B sh a x := ⟨h.s.keep hk, h.a.keep hk, h.s1, h.a1, h.s2, h.a2⟩
theorem ARep.mono {w : World} {B B' : Nat} {sh a : List Int} {x : AV} (h : ARep w B sh a x) (hB : B ≤ B') : ARep w B' sh a x := ⟨h.s.mono hB, h.a.mono hB, h.s1, h.a1, h.s2, h.a2⟩
end Go.Proofs.YtboondbognbnnaaGreatDoor

namespace Go.Proofs.YtboondbognbnnaaGreatDoor
open Go.RowKit
/-- the product, as it is reckoned -/
def cntF (n : Int) : List Int → Int
  | [] => n
  | k :: l => cntF (wrap64 (n * k)) l
theorem drop_cons {xs : List Int} {k : Nat} {v : Int} (h : xs[k]? = some v) : xs.drop k = v :: xs.drop (k + 1) := by
  obtain ⟨hlt, rfl⟩ := List.getElem?_eq_some_iff.1 h
  exact List.drop_eq_getElem_cons hlt
theorem cntF_step {n : Int} {xs : List Int} {k : Nat} {v : Int} (h : xs[k]? = some v) : cntF n (xs.drop k) = cntF (wrap64 (n * v)) (xs.drop (k + 1)) := by
  rw [drop_cons h]; rfl
/-- where the lengths may be, the product is small -/
theorem cntF_small : ∀ {xs : List Int} {n m : Int}, anyNeg xs = false → 0 ≤ m → m ≤ n → 1 ≤ n → n ≤ 4096 → smayF n xs = 0 → 0 ≤ cntF m xs ∧ cntF m xs ≤ 4096
  | [], n, m, _, h1, h2, _, h4, _ => ⟨h1, Int.le_trans h2 h4⟩
  | k :: l, n, m, hn, h1, h2, h3, h4, h => by
    unfold anyNeg at hn
    simp only [List.any_cons, Bool.or_eq_false_iff, decide_eq_false_iff_not] at hn
    have hk : 0 ≤ k := by omega
    have hj : k ≤ (if k < 1 then 1 else k) ∧ 1 ≤ (if k < 1 then 1 else k) := by split <;> omega
    unfold smayF at h
    generalize (if k < 1 then 1 else k) = j at h hj
    by_cases g1 : 4096 < k
    · rw [if_pos g1] at h; cases h
    · rw [if_neg g1] at h
      by_cases g2 : 4096 < n * j
      · rw [if_pos g2] at h; cases h
      · rw [if_neg g2] at h
        have e1 : 0 ≤ m * k := Int.mul_nonneg h1 hk
        have e2 : m * k ≤ n * j := Int.mul_le_mul h2 hj.1 hk (by omega)
        have e3 : 1 ≤ n * j := by
          have := Int.mul_le_mul h3 hj.2 (by omega) (by omega)
          omega
        have hw : wrap64 (m * k) = m * k := by unfold wrap64; omega
        show 0 ≤ cntF (wrap64 (m * k)) l ∧ cntF (wrap64 (m * k)) l ≤ 4096
        rw [hw]
        exact cntF_small (by unfold anyNeg; exact hn.2) e1 e2 e3 (by omega) h
theorem smay_small {xs : List Int} (h : smay xs = 0) : 0 ≤ cntF 1 xs ∧ cntF 1 xs ≤ 4096 ∧ xs.length ≤ 8 := by
  unfold smay at h
  split at h
  · cases h
  · split at h
    · cases h
    · rename_i h1 h2
      obtain ⟨g1, g2⟩ := cntF_small (n := 1) (m := 1) (by simpa using h1) (by omega) (by omega) (by omega) (by omega) h
      exact ⟨g1, g2, by omega⟩
set_option maxRecDepth 100000 in
theorem count_calls {B len cap : Nat} {A : Option Addr} {xs : List Int} {w : World} (h : Ints w B A len xs) (hl : len ≤ 17592186044416) :
    Calls Tryz.prog 64 #[.slice A len cap] w fun e w' => e = .returned (.int .i64 (cntF 1 xs)) ∧ w' = w := by
  have H := Lib.hid h
  have hlen := h.1
  clear h
  have h0 : (0 : Int) ≤ (len : Int) := Int.natCast_nonneg _
  go_enter Tryz.func64, Tryz.ntmps64
  go_wp2_with fail
  go_loopw [3, 8] (fun v i wr => ∃ (k : Nat) (n : Int), k ≤ len ∧ i = .int .i64 k ∧ v = .int .i64 n ∧ cntF 1 xs = cntF n (xs.drop k) ∧ wr = w) (fun _ i _ => len - (intOf i).toNat)
  case atStart => exact ⟨0, 1, Nat.zero_le _, rfl, rfl, rfl, rfl⟩
  case round =>
    obtain ⟨k, n, hk, rfl, rfl, hc, hwr⟩ := hrel
    subst hwr
    have HC := Lib.hid hc
    clear hc
    have k0 : (0 : Int) ≤ (k : Int) := Int.natCast_nonneg _
    by_cases hlt : k < len
    · have k1 : (k : Int) < (len : Int) := Int.ofNat_lt.2 hlt
      have hw : wrap64 ((k : Int) + 1) = ((k + 1 : Nat) : Int) := wrap_succ (by omega)
      obtain ⟨v, hv⟩ : ∃ v, xs[k]? = some v := ⟨xs[k]'(by omega), by simp⟩
      obtain ⟨b, o, rfl, hb, hc⟩ := ints_cell H.out hv
      have HN := Lib.hid (HC.out.trans (cntF_step hv))
      clear hv
      go_wp2_with fail
      go_roundw
      case rel => exact ⟨k + 1, _, hlt, by go_num, rfl, HN.out, trivial⟩
      case measure => exact sm_meas (by first | exact Int.lt_succ _ | (rw [hw]; exact Int.lt_succ _)) k0 k1
    · have k1 : ¬ (k : Int) < (len : Int) := by omega
      have hx : xs.drop k = [] := List.drop_of_length_le (by omega)
      have HE := Lib.hid (show cntF 1 xs = n from by rw [HC.out, hx]; rfl)
      clear hx
      go_wp2_with fail
      go_ret
      exact ⟨by rw [HE.out]; rfl, rfl⟩
/-- what shape.Size answers -/
def asz (xs : List Int) : Int := if smay xs = 0 then cntF 1 xs else 0
theorem size_calls' {B len cap : Nat} {A : Option Addr} {xs : List Int} {w : World} (h : Ints w B A len xs) (hl : len ≤ 17592186044416) :
    Calls Tryz.prog 39 #[.slice A len cap] w fun e w' => e = .returned (.tuple #[.int .i64 (asz xs), .int .i64 (smay xs)]) ∧ w' = w := by
  have H1 := Lib.hid (smay_calls (cap := cap) h hl)
  have H2 := Lib.hid (count_calls (cap := cap) h hl)
  clear h hl
  by_cases hs : smay xs = 0
  · have HA := Lib.hid (show asz xs = cntF 1 xs from if_pos hs)
    have HS := Lib.hid hs
    rw [hs] at H1
    clear hs
    go_enter Tryz.func39, Tryz.ntmps39
    go_wp2_with (first
      | (go_at_call 63; refine H1.out.mono ?_; rintro e w' ⟨rfl, rfl⟩)
      | (go_at_call 64; refine H2.out.mono ?_; rintro e w' ⟨rfl, rfl⟩))
    go_ret2
    exact ⟨by rw [HA.out, HS.out]; rfl, rfl⟩
  · have HA := Lib.hid (show asz xs = 0 from if_neg hs)
    have f1 : (smay xs != 0) = true := by simpa using hs
    clear hs
    go_enter Tryz.func39, Tryz.ntmps39
    go_wp2_with (go_at_call 63; refine H1.out.mono ?_; rintro e w' ⟨rfl, rfl⟩)
    go_ret2
    exact ⟨by rw [HA.out]; rfl, rfl⟩
/-- what arr.May answers -/
def amay (sh : List Int) (n : Nat) : Int := if smay sh = 0 ∧ cntF 1 sh ≠ (n : Int) then 1 else smay sh
theorem amay_zero {sh : List Int} {n : Nat} (h : amay sh n = 0) : n ≤ 4096 ∧ sh.length ≤ 8 := by
  unfold amay at h
  split at h
  · cases h
  · rename_i hc
    have := smay_small h
    rw [Decidable.not_and_iff_not_or_not, Decidable.not_not] at hc
    rcases hc with hc | hc
    · exact absurd h hc
    · omega
theorem amay_calls {B : Nat} {sh a : List Int} {x : AV} {w : World} (h : ARep w B sh a x) (hl : x.sl ≤ 17592186044416) (hB : B ≤ w.heap.size) :
    Calls Tryz.prog 16 #[x.val] w fun e w' => e = .returned (.int .i64 (amay sh a.length)) ∧ Below w.heap.size w w' := by
  have hb1 := (Below.refl w.heap.size w).alloc (Nat.le_refl _) (.cells x.cells 26)
  have HB := Lib.hid hb1
  have hk := Keeps.of_below hb1 hB
  have H1 := Lib.hid (size_calls' (cap := x.sc) (h.keep hk).s hl)
  have hal : a.length = x.al := h.a.1
  rw [hal]
  clear h hb1 hk hl
  unfold AV.cells at HB H1
  unfold AV.val AV.cells
  by_cases hs : smay sh = 0
  · have e1 : asz sh = cntF 1 sh := if_pos hs
    rw [e1] at H1
    have f1 : (smay sh == 0) = true := by simp [hs]
    by_cases hq : cntF 1 sh = (x.al : Int)
    · have HM := Lib.hid (show amay sh x.al = smay sh from by unfold amay; rw [if_neg (by simp [hq])])
      have f2 : (cntF 1 sh != (x.al : Int)) = false := by simp [hq]
      clear hs e1 hq
      go_enter Tryz.func16, Tryz.ntmps16
      go_wp2_with (go_at_call 39; refine H1.out.mono ?_; rintro e w' ⟨rfl, rfl⟩)
      go_ret
      exact ⟨by rw [HM.out]; rfl, HB.out⟩
    · have HM := Lib.hid (show amay sh x.al = 1 from by unfold amay; rw [if_pos ⟨hs, hq⟩])
      have f2 : (cntF 1 sh != (x.al : Int)) = true := by simpa using hq
      clear hs e1 hq
      go_enter Tryz.func16, Tryz.ntmps16
      go_wp2_with (go_at_call 39; refine H1.out.mono ?_; rintro e w' ⟨rfl, rfl⟩)
      go_ret
      exact ⟨by rw [HM.out]; rfl, HB.out⟩
  · have HM := Lib.hid (show amay sh x.al = smay sh from by unfold amay; rw [if_neg (fun h => hs h.1)])
    have f1 : (smay sh == 0) = false := by simpa using hs
    clear hs
    go_enter Tryz.func16, Tryz.ntmps16
    go_wp2_with (go_at_call 39; refine H1.out.mono ?_; rintro e w' ⟨rfl, rfl⟩)
    go_ret
    exact ⟨by rw [HM.out]; rfl, HB.out⟩
def EqPost14 (w : World) (e : Ending) (w' : World) : Prop := e = .returned (.bool true) ∧ Below w.heap.size w w'
set_option maxRecDepth 100000 in
theorem eqInts_calls {B len c1 c2 : Nat} {A1 A2 : Option Addr} {xs : List Int} {w : World} (h1 : Ints w B A1 len xs) (h2 : Ints w B A2 len xs) (hl : len ≤ 17592186044416) (hB : B ≤ w.heap.size) :
    Calls Tryz.prog 37 #[.slice A1 len c1, .slice A2 len c2] w (EqPost14 w) := by
  have H1 := Lib.hid h1
  have H2 := Lib.hid h2
  have hlen := h1.1
  clear h1 h2
  have h0 : (0 : Int) ≤ (len : Int) := Int.natCast_nonneg _
  have HB0 := Lib.hid (Below.refl w.heap.size w)
  unfold EqPost14
  go_enter Tryz.func37, Tryz.ntmps37
  go_wp2_with fail
  go_loopw [5] (fun i wr => ∃ k : Nat, k ≤ len ∧ i = .int .i64 k ∧ Below w.heap.size w wr) (fun i _ => len - (intOf i).toNat)
  case atStart => exact ⟨0, Nat.zero_le _, rfl, HB0.out⟩
  case round =>
    obtain ⟨k, hk, rfl, hb⟩ := hrel
    have HB := Lib.hid hb
    clear hb
    have k0 : (0 : Int) ≤ (k : Int) := Int.natCast_nonneg _
    by_cases hlt : k < len
    · have k1 : (k : Int) < (len : Int) := Int.ofNat_lt.2 hlt
      have hw : wrap64 ((k : Int) + 1) = ((k + 1 : Nat) : Int) := wrap_succ (by omega)
      obtain ⟨v, hv⟩ : ∃ v, xs[k]? = some v := ⟨xs[k]'(by omega), by simp⟩
      obtain ⟨b1, o1, rfl, hb1, hc1⟩ := ints_cell (H1.out.keep (Keeps.of_below HB.out hB)) hv
      obtain ⟨b2, o2, rfl, hb2, hc2⟩ := ints_cell (H2.out.keep (Keeps.of_below HB.out hB)) hv
      clear hv hb1 hb2
      go_wp2_with fail
      go_quiet (fail)
      go_wp2_with fail
      have HB2 := Lib.hid (below_drewN HB.out 1)
      go_roundw
      case rel => exact ⟨k + 1, hlt, by go_num, by first | exact HB2.out | exact below_drewN HB.out _⟩
      case measure => exact sm_meas (by first | exact Int.lt_succ _ | (rw [hw]; exact Int.lt_succ _)) k0 k1
    · have k1 : ¬ (k : Int) < (len : Int) := by omega
      go_wp2_with fail
      go_ret
      exact ⟨rfl, HB.out⟩
set_option maxRecDepth 100000 in
theorem eqAtoms_calls {B len c1 c2 : Nat} {A1 A2 : Option Addr} {xs : List Int} {w : World} (h1 : Ints w B A1 len xs) (h2 : Ints w B A2 len xs) (hl : len ≤ 17592186044416) (hB : B ≤ w.heap.size) :
    Calls Tryz.prog 38 #[.slice A1 len c1, .slice A2 len c2] w (EqPost14 w) := by
  have H1 := Lib.hid h1
  have H2 := Lib.hid h2
  have hlen := h1.1
  clear h1 h2
  have h0 : (0 : Int) ≤ (len : Int) := Int.natCast_nonneg _
  have HB0 := Lib.hid (Below.refl w.heap.size w)
  unfold EqPost14
  go_enter Tryz.func38, Tryz.ntmps38
  go_wp2_with fail
  go_loopw [5] (fun i wr => ∃ k : Nat, k ≤ len ∧ i = .int .i64 k ∧ Below w.heap.size w wr) (fun i _ => len - (intOf i).toNat)
  case atStart => exact ⟨0, Nat.zero_le _, rfl, HB0.out⟩
  case round =>
    obtain ⟨k, hk, rfl, hb⟩ := hrel
    have HB := Lib.hid hb
    clear hb
    have k0 : (0 : Int) ≤ (k : Int) := Int.natCast_nonneg _
    by_cases hlt : k < len
    · have k1 : (k : Int) < (len : Int) := Int.ofNat_lt.2 hlt
      have hw : wrap64 ((k : Int) + 1) = ((k + 1 : Nat) : Int) := wrap_succ (by omega)
      obtain ⟨v, hv⟩ : ∃ v, xs[k]? = some v := ⟨xs[k]'(by omega), by simp⟩
      obtain ⟨b1, o1, rfl, hb1, hc1⟩ := ints_cell (H1.out.keep (Keeps.of_below HB.out hB)) hv
      obtain ⟨b2, o2, rfl, hb2, hc2⟩ := ints_cell (H2.out.keep (Keeps.of_below HB.out hB)) hv
      clear hv hb1 hb2
      go_wp2_with fail
      go_quiet (fail)
      go_wp2_with fail
      have HB2 := Lib.hid (below_drewN HB.out 1)
      go_roundw
      case rel => exact ⟨k + 1, hlt, by go_num, by first | exact HB2.out | exact below_drewN HB.out _⟩
      case measure => exact sm_meas (by first | exact Int.lt_succ _ | (rw [hw]; exact Int.lt_succ _)) k0 k1
    · have k1 : ¬ (k : Int) < (len : Int) := by omega
      go_wp2_with fail
      go_ret
      exact ⟨rfl, HB.out⟩
end Go.Proofs.YtboondbognbnnaaGreatDoor
