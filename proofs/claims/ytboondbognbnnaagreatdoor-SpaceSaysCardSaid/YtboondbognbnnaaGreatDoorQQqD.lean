/- Package print: texts behind one another in a loop; body. Package print: definitions, ranks, trains' brackets. Package print: agendas, definitions, ranks. Package print: closed, and the closures that are handed to between. -/
import Derived.Test.YtboondbognbnnaaGreatDoorQQqC
set_option linter.unusedVariables false
set_option linter.unusedSimpArgs false
namespace Go.Proofs.YtboondbognbnnaaGreatDoor
open Go.RowKit
structure SeqRel (B b : Nat) (l a0 : List UInt8) (xs : List (List UInt8)) (w : World) (k : Nat) (w1 : World) : Prop where
  done : Done B b l (a0 ++ (xs.take k).flatten) w w1
theorem take_flat {xs : List (List UInt8)} {k : Nat} {o : List UInt8} (h : xs[k]? = some o) : (xs.take (k + 1)).flatten = (xs.take k).flatten ++ o := by
  rw [List.take_add_one, h]; simp
theorem seq_split {xs : List (List UInt8)} {k : Nat} {o1 o2 : List UInt8} (h : xs[k]? = some (o1 ++ o2)) : ∃ r, xs.flatten = (xs.take k).flatten ++ (o1 ++ r) := by
  have e : xs.flatten = (xs.take (k + 1)).flatten ++ (xs.drop (k + 1)).flatten := by rw [← List.flatten_append, List.take_append_drop]
  exact ⟨o2 ++ (xs.drop (k + 1)).flatten, by rw [e, take_flat h]; simp⟩
section
variable {B b k : Nat} {l a0 o1 o2 : List UInt8} {xs : List (List UInt8)} {w w2 : World} {ps : List PanicEntry}
theorem SeqRel.next (h : xs[k]? = some (o1 ++ o2)) (hd : Done B b l (a0 ++ (xs.take k).flatten ++ o1 ++ o2) w w2) : SeqRel B b l a0 xs w (k + 1) w2 := ⟨by
  rw [take_flat h]
  have e : a0 ++ ((xs.take k).flatten ++ (o1 ++ o2)) = a0 ++ (xs.take k).flatten ++ o1 ++ o2 := by simp
  rw [e]; exact hd⟩
theorem SeqRel.next1 (h : xs[k]? = some o1) (hd : Done B b l (a0 ++ (xs.take k).flatten ++ o1) w w2) : SeqRel B b l a0 xs w (k + 1) w2 := SeqRel.next (o2 := []) (by rw [List.append_nil]; exact h) (by rw [List.append_nil]; exact hd)
theorem SeqRel.dead (h : xs[k]? = some (o1 ++ o2)) (rest : List UInt8) (hd : Dead B b l (a0 ++ (xs.take k).flatten ++ o1) w ps w2) : Puts B b l (a0 ++ (xs.flatten ++ rest)) w (.panicked ps) w2 := by
  obtain ⟨r, e⟩ := seq_split h
  exact hd.to ⟨r ++ rest, by rw [e]; simp⟩
theorem SeqRel.dead1 (h : xs[k]? = some o1) (rest : List UInt8) (hd : Dead B b l (a0 ++ (xs.take k).flatten ++ o1) w ps w2) : Puts B b l (a0 ++ (xs.flatten ++ rest)) w (.panicked ps) w2 := SeqRel.dead (o2 := []) (by rw [List.append_nil]; exact h) rest hd
theorem SeqRel.dead2 (h : xs[k]? = some (o1 ++ o2)) (rest : List UInt8) (hd : Dead B b l (a0 ++ (xs.take k).flatten ++ o1 ++ o2) w ps w2) : Puts B b l (a0 ++ (xs.flatten ++ rest)) w (.panicked ps) w2 := SeqRel.dead1 h rest (by rw [← List.append_assoc]; exact hd)
theorem SeqRel.fin (h : SeqRel B b l a0 xs w k w2) (hk : xs.length = k) : Done B b l (a0 ++ xs.flatten) w w2 := by
  have := h.done
  rw [← hk, List.take_length] at this
  exact this
end
/-- a body's sentences, each with what stands behind it -/
def seps : List T → List (List UInt8)
  | [] => []
  | [t] => [Pp.rn (Pp.sentence t) ++ [32]]
  | t :: r => (Pp.rn (Pp.sentence t) ++ [59, 32]) :: seps r
theorem seps_flat : ∀ l : List T, (seps l).flatten = Pp.rn (Pp.sents l)
  | [] => rfl
  | [t] => by simp [seps, Pp.sents, Pp.rn_append, Pp.rn, Pp.Pc.bytes]
  | t :: u :: r => by
    have := seps_flat (u :: r)
    simp only [seps, List.flatten_cons, Pp.sents, Pp.rn_append, Pp.rn, Pp.Pc.bytes, this] ; simp
theorem seps_length : ∀ l : List T, (seps l).length = l.length
  | [] => rfl
  | [t] => rfl
  | t :: u :: r => by simp only [seps, List.length_cons]; rw [seps_length (u :: r)]; rfl
theorem seps_at : ∀ (l : List T) (k : Nat) (t : T), l[k]? = some t → (seps l)[k]? = some (Pp.rn (Pp.sentence t) ++ (if k + 1 < l.length then [59, 32] else [32]))
  | [], k, t, h => by simp at h
  | [u], k, t, h => by
    cases k with
    | zero => simp at h; subst h; simp [seps]
    | succ k => simp at h
  | u :: v :: r, k, t, h => by
    cases k with
    | zero => simp at h; subst h; simp [seps]
    | succ k =>
      simp only [seps, List.getElem?_cons_succ]
      rw [seps_at (v :: r) k t (by simpa using h)]
      simp only [List.length_cons]
      by_cases hk : k + 1 < r.length + 1
      · rw [if_pos hk, if_pos (by omega)]
      · rw [if_neg hk, if_neg (by omega)]
set_option maxRecDepth 100000 in
set_option maxHeartbeats 4000000 in
theorem body_walk {L : List T} (hL : ∀ t ∈ L, SAt t) : BAt (Pz.made 14 L) := by
  intro B b p o x l w ht hW hl hB hT
  have htot : Pp.rn (Pp.body (Pz.made 14 L)) = [] ++ ((seps L).flatten ++ []) := by rw [Pp.b_body, seps_flat]; simp
  rw [htot]
  have c5 := ht.at_.c5
  have hkl : x.kl = L.length := ht.rep.kl
  have hk2 := ht.rep.wee.l1
  have hk3 := ht.rep.wee.l0
  have HK := Lib.hid (fun (j : Nat) (u : T) (h : L[j]? = some u) => ht.kid (j := j) (u := u) h)
  have HC := Lib.hid (fun (w1 : World) (h : Below B w w1) => (h.cell (p := ⟨p, o + 5, none⟩) ht.lt).trans c5)
  have H0 := Lib.hid (⟨by simpa using Done.start hW hl⟩ : SeqRel B b l [] (seps L) w 0 w)
  have HB := Lib.hid hB
  have HT := Lib.hid hT
  have HL := Lib.hid hL
  have HX := Lib.hid (And.intro hkl (And.intro hk2 hk3))
  clear ht hW hl hB hT hL htot hkl hk2 hk3
  generalize x.kl = n at *
  go_enter Tryz.func80, Tryz.ntmps80
  go_wp2_with fail
  go_loopw [10] (fun i wr => ∃ k : Nat, k ≤ n ∧ i = .int .i64 k ∧ SeqRel B b l [] (seps L) w k wr) (fun i _ => n - (intOf i).toNat)
  case atStart => exact ⟨0, Nat.zero_le _, rfl, H0.out⟩
  case round =>
    obtain ⟨k, hk, rfl, hrel⟩ := hrel
    have D0 := Lib.hid hrel
    clear hrel
    by_cases hlt : k < n
    · obtain ⟨t, htk⟩ : ∃ t, L[k]? = some t := ⟨L[k]'(by rw [← HX.out.1]; exact hlt), by simp⟩
      obtain ⟨q, r, y, hka, hy⟩ := HK.out k t htk
      have HS := Lib.hid (seps_at L k t htk)
      rw [← HX.out.1] at HS
      rw [hka] at HC
      have d5 := HC.out _ D0.out.done.below
      have HY := Lib.hid hy
      have HSt := Lib.hid (HL.out t (List.mem_of_getElem? htk))
      have hk1 : (k : Int) < (n : Int) := by omega
      have hk2 : (0 : Int) ≤ (k : Int) := by omega
      have HT' := Lib.hid hlt
      have hw1 : IntKind.i64.wrap ((k : Int) + 1) = (k : Int) + 1 := by rw [IntKind.wrap_i64]; have := HX.out.2.1; omega
      have HW := Lib.hid (show wrap64 ((k : Int) + 1) = (k : Int) + 1 from by have := HX.out.2.1; unfold wrap64; omega)
      have hw64 := HW.out
      clear htk hka hy
      by_cases hnx : k + 1 < n
      all_goals
        first
        | (have hg : (k : Int) + 1 < (n : Int) := by omega
           rw [if_pos hnx] at HS)
        | (have hg : ¬ (k : Int) + 1 < (n : Int) := by omega
           rw [if_neg hnx] at HS)
        go_wp2_with fail
        refine (HSt.out.at_ HY.out HB.out HT.out D0.out.done).mono ?_
        intro e w1 hp
        rcases hp.two with ⟨rfl, h⟩ | ⟨ps, rfl, h⟩
        rotate_left
        · exact ⟨rfl, SeqRel.dead HS.out [] (D0.out.done.dead h)⟩
        have D1 := Lib.hid (D0.out.done.then h)
        have e5 := HC.out _ D1.out.below
        clear hp h
        go_wp2_with fail
        first
        | refine (D1.out.put HB.out ⟨#[59, 32]⟩ (by decide)).mono ?_
        | refine (D1.out.put HB.out ⟨#[32]⟩ (by decide)).mono ?_
        intro e w2 hp
        rcases hp.two with ⟨rfl, h⟩ | ⟨ps, rfl, h⟩
        rotate_left
        · exact ⟨rfl, SeqRel.dead2 HS.out [] (D1.out.dead h)⟩
        have D2 := Lib.hid (D1.out.then h)
        clear hp h
        go_wp2_with fail
        go_roundw
        case rel => exact ⟨k + 1, HT'.out, by go_num, SeqRel.next HS.out D2.out⟩
        case measure => exact sp_meas (by first | exact Int.lt_succ _ | (rw [HW.out]; exact Int.lt_succ _)) (Int.natCast_nonneg _) (Int.ofNat_lt.2 HT'.out)
    · obtain rfl : k = n := by omega
      go_wp2_with fail
      exact bodyPost_end (results_none rfl _ _ _) rfl ((D0.out.fin (by rw [seps_length, HX.out.1])).to (by simp))
end Go.Proofs.YtboondbognbnnaaGreatDoor

namespace Go.Proofs.YtboondbognbnnaaGreatDoor
open Go.RowKit
theorem Done.putg {B b : Nat} {l acc : List UInt8} {w w1 : World} (D : Done B b l acc w w1) (hB : B ≤ w.heap.size) (s : ByteArray) (hs : s.size ≤ 64) {g : Nat} (hg : g = w1.heap.size) :
    Calls Tryz.prog 78 #[ptr b 0, .slice (some ⟨g, 0, none⟩) 1 1] (w1.alloc (.cells #[.string s] 9)) (Puts B b (l ++ acc) s.data.toList w1) := by subst hg; exact D.put hB s hs
set_option maxRecDepth 100000 in
set_option maxHeartbeats 4000000 in
theorem ph_defn {m : Int} {d : T} (hm : m = 1 ∨ m = 2) (h0 : BAt d) : VAt (.mk 23 Pp.E m [] [] [d]) := by
  intro B b p o x l w ht hW hl hB hT
  have htot : Pp.rn (Pp.phrase (.mk 23 Pp.E m [] [] [d])) = (if m = 1 then [123, 123, 41, 109, 32] else [123, 123, 41, 100, 32]) ++ (Pp.rn (Pp.body d) ++ [125, 125]) := by
    rw [Pp.p_defn]
    rcases hm with rfl | rfl <;> simp [Pp.rn, Pp.Pc.bytes, Pp.rn_append]
  rw [htot]
  have c0 := ht.kind
  have c2 := ht.n
  obtain ⟨q, r, cap, c5, hcap, hkid⟩ := ht.kids (u := d) (l := []) rfl
  obtain ⟨y0, hy0⟩ := hkid 0 d rfl
  rw [Nat.zero_mul, Nat.add_zero] at hy0
  simp only [T.kind_mk, T.n_mk, List.length_cons, List.length_nil, Nat.zero_add, Nat.reduceAdd] at c0 c2 c5 hcap
  have HC := Lib.hid (fun (w1 : World) (h : Below B w w1) => (h.cell (p := ⟨p, o + 5, none⟩) ht.lt).trans c5)
  have hpl : p < w.heap.size := Nat.lt_of_lt_of_le ht.lt hB
  have D0 := Lib.hid (Done.start hW hl)
  have HB := Lib.hid hB
  have HT := Lib.hid hT
  have HY0 := Lib.hid hy0
  clear ht hW hl hB hT htot hkid hy0
  rcases hm with rfl | rfl
  all_goals
    go_enter Tryz.func54, Tryz.ntmps54
    go_wp2_with fail
    have hA := (Below.refl w.heap.size w).alloc (Nat.le_refl _) (.cells #[.string ⟨#[123, 123, 41, 109, 32]⟩, .string ⟨#[123, 123, 41, 100, 32]⟩] 9)
    have D0' := Lib.hid (D0.out.later HB.out hA)
    first
    | refine (D0'.out.putg HB.out ⟨#[123, 123, 41, 109, 32]⟩ (by decide) (by simp)).mono ?_
    | refine (D0'.out.putg HB.out ⟨#[123, 123, 41, 100, 32]⟩ (by decide) (by simp)).mono ?_
    intro e w1 hp
    rcases hp.two with ⟨rfl, h⟩ | ⟨ps, rfl, h⟩
    rotate_left
    · exact ⟨rfl, (D0'.out.dead h).to ⟨Pp.rn (Pp.body d) ++ [125, 125], by simp⟩⟩
    have D1 := Lib.hid (D0'.out.then h)
    have d5 := HC.out _ D1.out.below
    clear hp h
    go_wp2_with fail
    refine (h0.at_ HY0.out HB.out HT.out D1.out).mono ?_
    intro e w2 hp
    rcases hp.two with ⟨rfl, h⟩ | ⟨ps, rfl, h⟩
    rotate_left
    · exact ⟨rfl, (D1.out.dead h).to ⟨[125, 125], by simp⟩⟩
    have D2 := Lib.hid (D1.out.then h)
    clear hp h
    go_wp2_with fail
    refine (D2.out.put HB.out ⟨#[125, 125]⟩ (by decide)).mono ?_
    intro e w3 hp
    rcases hp.two with ⟨rfl, h⟩ | ⟨ps, rfl, h⟩
    rotate_left
    · exact ⟨rfl, (D2.out.dead h).to ⟨[], by simp⟩⟩
    have D3 := Lib.hid (D2.out.then h)
    clear hp h
    go_wp2_with fail
    exact bodyPost_end (results_none rfl _ _ _) rfl (D3.out.to (by simp))
set_option maxRecDepth 100000 in
set_option maxHeartbeats 4000000 in
theorem ph_rank {a : List Int} {u : T} (hr : ∀ n ∈ a, Pz.inRange n = true) (h0 : VAt u) : VAt (.mk 42 Pp.E 0 [(a.length : Int)] a [u]) := by
  intro B b p o x l w ht hW hl hB hT
  have htot : Pp.rn (Pp.phrase (.mk 42 Pp.E 0 [(a.length : Int)] a [u])) = Pp.rn (Pp.phrase u) ++ ([34] ++ Pp.nums true a) := by
    rw [Pp.p_rank]; simp [Pp.rn, Pp.Pc.bytes, Pp.rn_append]
  rw [htot]
  have c0 := ht.kind
  obtain ⟨q, r, cap, c5, hcap, hkid⟩ := ht.kids (u := u) (l := []) rfl
  obtain ⟨y0, hy0⟩ := hkid 0 u rfl
  rw [Nat.zero_mul, Nat.add_zero] at hy0
  simp only [T.kind_mk, List.length_cons, List.length_nil, Nat.zero_add, Nat.reduceAdd] at c0 c5 hcap
  have HC := Lib.hid (fun (w1 : World) (h : Below B w w1) => And.intro ((h.cell (p := ⟨p, o + 3, none⟩) ht.lt).trans ht.at_.c3) ((h.cell (p := ⟨p, o + 4, none⟩) ht.lt).trans ht.at_.c4))
  have HA := Lib.hid (fun (w1 : World) (h : Below B w w1) => (show Ints w B x.aa x.al a from ht.rep.atoms).keep (Keeps.of_below h (Nat.le_refl _)))
  have HX := Lib.hid ht.rep.wee.a1
  have D0 := Lib.hid (Done.start hW hl)
  have HB := Lib.hid hB
  have HT := Lib.hid hT
  have HY0 := Lib.hid hy0
  clear ht hW hl hB hT htot hkid hy0
  go_enter Tryz.func54, Tryz.ntmps54
  go_wp2_with fail
  refine (h0.at_ HY0.out HB.out HT.out D0.out).mono ?_
  intro e w1 hp
  rcases hp.two with ⟨rfl, h⟩ | ⟨ps, rfl, h⟩
  rotate_left
  · exact ⟨rfl, (D0.out.dead h).to ⟨[34] ++ Pp.nums true a, by simp⟩⟩
  have D1 := Lib.hid (D0.out.then h)
  clear hp h
  go_wp2_with fail
  refine (D1.out.put HB.out ⟨#[34]⟩ (by decide)).mono ?_
  intro e w2 hp
  rcases hp.two with ⟨rfl, h⟩ | ⟨ps, rfl, h⟩
  rotate_left
  · exact ⟨rfl, (D1.out.dead h).to ⟨Pp.nums true a, by simp⟩⟩
  have D2 := Lib.hid (D1.out.then h)
  obtain ⟨d3, d4⟩ := HC.out _ D2.out.below
  clear hp h
  go_wp2_with fail
  refine (numbers_calls true a _ _ _ _ _ _ D2.out.box D2.out.le (Nat.le_trans HB.out D2.out.below.size) (HT.out.below D2.out.below) (HA.out _ D2.out.below) hr HX.out).mono ?_
  intro e w3 hp
  rcases hp.two with ⟨rfl, h⟩ | ⟨ps, rfl, h⟩
  rotate_left
  · exact ⟨rfl, (D2.out.dead h).to ⟨[], by simp⟩⟩
  have D3 := Lib.hid (D2.out.then h)
  clear hp h
  go_wp2_with fail
  exact bodyPost_end (results_none rfl _ _ _) rfl (D3.out.to (by simp))
/-- train, of a verb's kids -/
def TrAt (L : List T) (out : List UInt8) : Prop := ∀ (B b q r n cap : Nat) (l : List UInt8) (w : World), n = L.length → n ≤ cap → n ≤ 3 → (∀ (j : Nat) (t : T), L[j]? = some t → ∃ y, TAt B t q (r + j * 6) y w) → Wr B b l w → l.length ≤ 1048576 → B ≤ w.heap.size → Tabs B w →
  Calls Tryz.prog 85 #[ptr b 0, .slice (some ⟨q, r, none⟩) n cap] w (Puts B b l out w)
set_option maxRecDepth 100000 in
set_option maxHeartbeats 4000000 in
theorem ph_train {k : Int} {u : T} {L : List T} {out : List UInt8} (hk : k = 44 ∨ k = 45 ∨ k = 46) (hn : (u :: L).length ≤ 3) (h0 : TrAt (u :: L) out) (he : Pp.rn (Pp.phrase (Pz.made k (u :: L))) = 40 :: (if k = 46 then [91, 58, 32] else []) ++ out ++ [41]) : VAt (Pz.made k (u :: L)) := by
  intro B b p o x l w ht hW hl hB hT
  have htot : Pp.rn (Pp.phrase (Pz.made k (u :: L))) = [40] ++ ((if k = 46 then [91, 58, 32] else []) ++ (out ++ [41])) := by rw [he]; simp
  rw [htot]
  have c0 := ht.kind
  obtain ⟨q, r, cap, c5, hcap, hkid⟩ := ht.kids (u := u) (l := L) rfl
  simp only [Pz.made, T.kind_mk] at c0 c5
  have HC := Lib.hid (fun (w1 : World) (h : Below B w w1) => And.intro ((h.cell (p := ⟨p, o, none⟩) ht.lt).trans c0) ((h.cell (p := ⟨p, o + 5, none⟩) ht.lt).trans c5))
  have HK := Lib.hid (fun (w1 : World) (h : Below B w w1) (j : Nat) (t : T) (hj : (u :: L)[j]? = some t) => (hkid j t hj).imp fun y hy => hy.below h)
  have D0 := Lib.hid (Done.start hW hl)
  have HB := Lib.hid hB
  have HT := Lib.hid hT
  clear ht hW hl hB hT htot hkid he
  rcases hk with rfl | rfl | rfl
  all_goals
    go_enter Tryz.func54, Tryz.ntmps54
    go_wp2_with fail
    refine (D0.out.put HB.out ⟨#[40]⟩ (by decide)).mono ?_
    intro e w1 hp
    rcases hp.two with ⟨rfl, h⟩ | ⟨ps, rfl, h⟩
    rotate_left
    · exact ⟨rfl, (D0.out.dead h).to (by first | (refine ⟨out ++ [41], ?_⟩; simp; done) | (refine ⟨[91, 58, 32] ++ (out ++ [41]), ?_⟩; simp; done))⟩
    have D1 := Lib.hid (D0.out.then h)
    obtain ⟨d0, d5⟩ := HC.out _ D1.out.below
    clear hp h
    go_wp2_with fail
    try
      (refine (D1.out.put HB.out ⟨#[91, 58, 32]⟩ (by decide)).mono ?_
       intro e w2 hp
       rcases hp.two with ⟨rfl, h⟩ | ⟨ps, rfl, h⟩
       rotate_left
       · exact ⟨rfl, (D1.out.dead h).to ⟨out ++ [41], by simp⟩⟩
       have D2 := Lib.hid (D1.out.then h)
       have D1 := D2
       obtain ⟨d0, d5⟩ := HC.out _ D1.out.below
       clear hp h
       go_wp2_with fail)
    refine (h0 B b q r _ cap _ _ rfl hcap hn (HK.out _ D1.out.below) D1.out.box D1.out.le (Nat.le_trans HB.out D1.out.below.size) (HT.out.below D1.out.below)).mono ?_
    intro e w3 hp
    rcases hp.two with ⟨rfl, h⟩ | ⟨ps, rfl, h⟩
    rotate_left
    · exact ⟨rfl, (D1.out.dead h).to ⟨[41], by simp⟩⟩
    have D3 := Lib.hid (D1.out.then h)
    clear hp h
    go_wp2_with fail
    refine (D3.out.put HB.out ⟨#[41]⟩ (by decide)).mono ?_
    intro e w4 hp
    rcases hp.two with ⟨rfl, h⟩ | ⟨ps, rfl, h⟩
    rotate_left
    · exact ⟨rfl, (D3.out.dead h).to ⟨[], by simp⟩⟩
    have D4 := Lib.hid (D3.out.then h)
    clear hp h
    go_wp2_with fail
    exact bodyPost_end (results_none rfl _ _ _) rfl (D4.out.to (by simp))
end Go.Proofs.YtboondbognbnnaaGreatDoor

namespace Go.Proofs.YtboondbognbnnaaGreatDoor
open Go.RowKit
/-- texts with a mark ahead of each but the first -/
def marked (m : List UInt8) (f : T → List UInt8) : List T → List (List UInt8)
  | [] => []
  | t :: r => f t :: r.map fun u => m ++ f u
theorem marked_length (m : List UInt8) (f : T → List UInt8) (l : List T) : (marked m f l).length = l.length := by cases l <;> simp [marked]
theorem marked_at (m : List UInt8) (f : T → List UInt8) {l : List T} {k : Nat} {t : T} (h : l[k]? = some t) : (marked m f l)[k]? = some ((if k = 0 then [] else m) ++ f t) := by
  cases l with
  | nil => simp at h
  | cons u r =>
    cases k with
    | zero => simp at h; subst h; simp [marked]
    | succ k => simp [marked] at h ⊢; exact ⟨t, h, rfl⟩
theorem ties_flat : ∀ l : List T, (marked [96] (fun t => Pp.rn (Pp.phrase t)) l).flatten = Pp.rn (Pp.ties l)
  | [] => rfl
  | [t] => by simp [marked, Pp.ties]
  | t :: u :: r => by
    have := ties_flat (u :: r)
    simp only [marked, List.flatten_cons, List.map_cons, Pp.ties, Pp.rn_append, Pp.rn, Pp.Pc.bytes] at this ⊢
    rw [← this]; simp
theorem ors_flat : ∀ l : List T, (marked [32, 111, 114, 46, 32] (fun t => Pp.rn (Pp.noun t)) l).flatten = Pp.rn (Pp.ors l)
  | [] => rfl
  | [t] => by simp [marked, Pp.ors]
  | t :: u :: r => by
    have := ors_flat (u :: r)
    simp only [marked, List.flatten_cons, List.map_cons, Pp.ors, Pp.rn_append, Pp.rn, Pp.Pc.bytes] at this ⊢
    rw [← this]; simp
set_option maxRecDepth 100000 in
set_option maxHeartbeats 4000000 in
theorem ag_one {s v : T} (h0 : CAt s) (h1 : VAt v) : AAt (Pz.made 43 [s, v]) := by
  intro B b p o x l w ht hW hl hB hT
  have htot : Pp.rn (Pp.phrase (Pz.made 43 [s, v])) = Pp.rn (Pp.phrase v) ++ ([64, 46] ++ Pp.rn (Pp.cl s)) := by rw [Pp.p_agenda1, Pp.rn_append]; rfl
  rw [htot]
  obtain ⟨q, r, cap, c5, hcap, hkid⟩ := ht.kids (u := s) (l := [v]) rfl
  obtain ⟨y0, hy0⟩ := hkid 0 s rfl
  obtain ⟨y1, hy1⟩ := hkid 1 v rfl
  rw [Nat.zero_mul, Nat.add_zero] at hy0
  simp only [List.length_cons, List.length_nil, Nat.zero_add, Nat.reduceAdd] at c5 hcap
  have HC := Lib.hid (fun (w1 : World) (h : Below B w w1) => (h.cell (p := ⟨p, o + 5, none⟩) ht.lt).trans c5)
  have D0 := Lib.hid (Done.start hW hl)
  have HB := Lib.hid hB
  have HT := Lib.hid hT
  have HY0 := Lib.hid hy0
  have HY1 := Lib.hid hy1
  clear ht hW hl hB hT htot hkid hy0 hy1
  go_enter Tryz.func84, Tryz.ntmps84
  go_wp2_with fail
  refine (h1.at_ HY1.out HB.out HT.out D0.out).mono ?_
  intro e w1 hp
  rcases hp.two with ⟨rfl, h⟩ | ⟨ps, rfl, h⟩
  rotate_left
  · exact ⟨rfl, (D0.out.dead h).to ⟨[64, 46] ++ Pp.rn (Pp.cl s), by simp only [List.nil_append, List.cons_append, List.append_assoc, List.append_nil]⟩⟩
  have D1 := Lib.hid (D0.out.then h)
  clear hp h
  go_wp2_with fail
  refine (D1.out.put HB.out ⟨#[64, 46]⟩ (by decide)).mono ?_
  intro e w2 hp
  rcases hp.two with ⟨rfl, h⟩ | ⟨ps, rfl, h⟩
  rotate_left
  · exact ⟨rfl, (D1.out.dead h).to ⟨Pp.rn (Pp.cl s), by simp only [List.nil_append, List.cons_append, List.append_assoc, List.append_nil]⟩⟩
  have D2 := Lib.hid (D1.out.then h)
  have e5 := HC.out _ D2.out.below
  clear hp h
  go_wp2_with fail
  refine (h0.at_ HY0.out HB.out HT.out D2.out).mono ?_
  intro e w3 hp
  rcases hp.two with ⟨rfl, h⟩ | ⟨ps, rfl, h⟩
  rotate_left
  · exact ⟨rfl, (D2.out.dead h).to ⟨[], by simp only [List.nil_append, List.cons_append, List.append_assoc, List.append_nil]⟩⟩
  have D3 := Lib.hid (D2.out.then h)
  clear hp h
  go_wp2_with fail
  exact bodyPost_end (results_none rfl _ _ _) rfl (D3.out.to (by simp only [List.nil_append, List.cons_append, List.append_assoc, List.append_nil]))
set_option maxRecDepth 100000 in
set_option maxHeartbeats 8000000 in
theorem ag_more {s v z : T} {L : List T} (h0 : CAt s) (hL : ∀ t ∈ v :: z :: L, VAt t) : AAt (Pz.made 43 (s :: v :: z :: L)) := by
  intro B b p o x l w ht hW hl hB hT
  obtain ⟨M, hM⟩ : ∃ M, M = v :: z :: L := ⟨_, rfl⟩
  have htot : Pp.rn (Pp.phrase (Pz.made 43 (s :: v :: z :: L))) = [40] ++ ((marked [96] (fun t => Pp.rn (Pp.phrase t)) M).flatten ++ ([41] ++ ([64, 46] ++ Pp.rn (Pp.cl s)))) := by
    rw [Pp.p_agenda, ties_flat, hM]; simp [Pp.rn, Pp.rn_append, Pp.Pc.bytes]
  rw [htot]
  have c5 := ht.at_.c5
  have hkl : x.kl = M.length + 1 := by rw [ht.rep.kl, hM]; rfl
  have hk2 := ht.rep.wee.l1
  have hk3 := ht.rep.wee.l0
  have hm2 : 2 ≤ M.length := by rw [hM]; simp
  rw [← hM] at hL ht
  obtain ⟨q, r, y0, hka, hy0⟩ := ht.kid (j := 0) (u := s) rfl
  have HK := Lib.hid (fun (j : Nat) (u : T) (h : M[j]? = some u) => ht.kid (j := j + 1) (u := u) h)
  rw [hka] at c5 HK
  rw [Nat.zero_mul, Nat.add_zero] at hy0
  have HC := Lib.hid (fun (w1 : World) (h : Below B w w1) => (h.cell (p := ⟨p, o + 5, none⟩) ht.lt).trans c5)
  have HB := Lib.hid hB
  have HT := Lib.hid hT
  have HL := Lib.hid hL
  have D0 := Lib.hid (Done.start hW hl)
  have HY0 := Lib.hid hy0
  have HX := Lib.hid (And.intro hkl (And.intro hk2 hk3))
  have hn2 : (x.kl == 2) = false := by simp; omega
  have hn3 : ((x.kl : Int) == 2) = false := by simp; omega
  have hkc := hk3
  clear ht hW hl hB hT hL htot hkl hk2 hM hy0
  obtain ⟨n, hn⟩ : ∃ n, n = M.length := ⟨_, rfl⟩
  have HN := Lib.hid hn
  generalize x.kl = m at *
  generalize x.kc = kc at *
  have hm1 : m = n + 1 := by rw [hn]; exact HX.out.1
  subst hm1
  have hone : (1 : Int) ≤ ((n + 1 : Nat) : Int) := by omega
  have hone2 : 1 ≤ n + 1 := by omega
  have hkc1 : ¬ kc = 1 := by omega
  clear hn hm2
  go_enter Tryz.func84, Tryz.ntmps84
  go_wp2_with fail
  refine (D0.out.put HB.out ⟨#[40]⟩ (by decide)).mono ?_
  intro e w1 hp
  rcases hp.two with ⟨rfl, h⟩ | ⟨ps, rfl, h⟩
  rotate_left
  · exact ⟨rfl, (D0.out.dead h).to ⟨(marked [96] (fun t => Pp.rn (Pp.phrase t)) M).flatten ++ ([41] ++ ([64, 46] ++ Pp.rn (Pp.cl s))), by simp only [List.nil_append, List.cons_append, List.append_assoc, List.append_nil]⟩⟩
  have D1 := Lib.hid (D0.out.then h)
  have d5 := HC.out _ D1.out.below
  have H0 := Lib.hid (⟨by simpa using D1.out⟩ : SeqRel B b l [40] (marked [96] (fun t => Pp.rn (Pp.phrase t)) M) w 0 w1)
  clear hp h
  go_wp2_with fail
  go_loopw [27] (fun i wr => ∃ k : Nat, k ≤ n ∧ i = .int .i64 k ∧ SeqRel B b l [40] (marked [96] (fun t => Pp.rn (Pp.phrase t)) M) w k wr) (fun i _ => n - (intOf i).toNat)
  case atStart => exact ⟨0, Nat.zero_le _, rfl, H0.out⟩
  case round =>
    obtain ⟨k, hk, rfl, hrel⟩ := hrel
    have D0 := Lib.hid hrel
    clear hrel
    by_cases hlt : k < n
    · obtain ⟨t, htk⟩ : ∃ t, M[k]? = some t := ⟨M[k]'(by rw [← HN.out]; exact hlt), by simp⟩
      obtain ⟨q', r', y, hka', hy⟩ := HK.out k t htk
      cases hka'
      have HS := Lib.hid (marked_at [96] (fun t => Pp.rn (Pp.phrase t)) htk)
      have HSt := Lib.hid (HL.out t (List.mem_of_getElem? htk))
      obtain ⟨j, hj⟩ : ∃ j, j = k + 1 := ⟨_, rfl⟩
      rw [← hj] at hy
      have HY := Lib.hid hy
      have hk1 : (k : Int) < (n : Int) := by omega
      have hk2 : (0 : Int) ≤ (k : Int) := by omega
      have hw1 : IntKind.i64.wrap (1 + (k : Int)) = (j : Int) := by rw [IntKind.wrap_i64]; have := HX.out.2.1; omega
      have hj0 : (0 : Int) ≤ (j : Int) := by omega
      have hj1 : (j : Int) < ((n + 1 : Nat) : Int) := by omega
      have hj2 : j < n + 1 := by omega
      have HT' := Lib.hid hlt
      have HW := Lib.hid (show wrap64 ((k : Int) + 1) = (k : Int) + 1 from by have := HX.out.2.1; unfold wrap64; omega)
      have hw64 := HW.out
      have e5 := HC.out _ D0.out.done.below
      clear htk hy hj
      by_cases h0 : k = 0
      · have hg : ¬ (0 : Int) < (k : Int) := by omega
        rw [if_pos h0] at HS
        clear h0
        go_wp2_with fail
        refine (HSt.out.at_ HY.out HB.out HT.out D0.out.done).mono ?_
        intro e w2 hp
        rcases hp.two with ⟨rfl, h⟩ | ⟨ps, rfl, h⟩
        rotate_left
        · exact ⟨rfl, SeqRel.dead1 HS.out _ (D0.out.done.dead h)⟩
        have D1 := Lib.hid (D0.out.done.then h)
        clear hp h
        go_wp2_with fail
        go_roundw
        case rel => exact ⟨k + 1, HT'.out, by go_num, SeqRel.next1 HS.out D1.out⟩
        case measure => exact sp_meas (by first | exact Int.lt_succ _ | (rw [HW.out]; exact Int.lt_succ _)) (Int.natCast_nonneg _) (Int.ofNat_lt.2 HT'.out)
      · have hg : (0 : Int) < (k : Int) := by omega
        rw [if_neg h0] at HS
        clear h0
        go_wp2_with fail
        refine (D0.out.done.put HB.out ⟨#[96]⟩ (by decide)).mono ?_
        intro e w2 hp
        rcases hp.two with ⟨rfl, h⟩ | ⟨ps, rfl, h⟩
        rotate_left
        · exact ⟨rfl, SeqRel.dead HS.out _ (D0.out.done.dead h)⟩
        have D1 := Lib.hid (D0.out.done.then h)
        have f5 := HC.out _ D1.out.below
        clear hp h
        go_wp2_with fail
        refine (HSt.out.at_ HY.out HB.out HT.out D1.out).mono ?_
        intro e w3 hp
        rcases hp.two with ⟨rfl, h⟩ | ⟨ps, rfl, h⟩
        rotate_left
        · exact ⟨rfl, SeqRel.dead2 HS.out _ (D1.out.dead h)⟩
        have D2 := Lib.hid (D1.out.then h)
        clear hp h
        go_wp2_with fail
        go_roundw
        case rel => exact ⟨k + 1, HT'.out, by go_num, SeqRel.next HS.out D2.out⟩
        case measure => exact sp_meas (by first | exact Int.lt_succ _ | (rw [HW.out]; exact Int.lt_succ _)) (Int.natCast_nonneg _) (Int.ofNat_lt.2 HT'.out)
    · obtain rfl : k = n := by omega
      have E0 := Lib.hid (D0.out.fin (by rw [marked_length]; exact HN.out.symm))
      clear D0
      go_wp2_with fail
      refine (E0.out.put HB.out ⟨#[41]⟩ (by decide)).mono ?_
      intro e w2 hp
      rcases hp.two with ⟨rfl, h⟩ | ⟨ps, rfl, h⟩
      rotate_left
      · exact ⟨rfl, (E0.out.dead h).to ⟨[64, 46] ++ Pp.rn (Pp.cl s), by simp only [List.nil_append, List.cons_append, List.append_assoc, List.append_nil]⟩⟩
      have D1 := Lib.hid (E0.out.then h)
      clear hp h
      go_wp2_with fail
      refine (D1.out.put HB.out ⟨#[64, 46]⟩ (by decide)).mono ?_
      intro e w3 hp
      rcases hp.two with ⟨rfl, h⟩ | ⟨ps, rfl, h⟩
      rotate_left
      · exact ⟨rfl, (D1.out.dead h).to ⟨Pp.rn (Pp.cl s), by simp only [List.nil_append, List.cons_append, List.append_assoc, List.append_nil]⟩⟩
      have D2 := Lib.hid (D1.out.then h)
      have f5 := HC.out _ D2.out.below
      clear hp h
      go_wp2_with fail
      refine (h0.at_ HY0.out HB.out HT.out D2.out).mono ?_
      intro e w4 hp
      rcases hp.two with ⟨rfl, h⟩ | ⟨ps, rfl, h⟩
      rotate_left
      · exact ⟨rfl, (D2.out.dead h).to ⟨[], by simp only [List.nil_append, List.cons_append, List.append_assoc, List.append_nil]⟩⟩
      have D3 := Lib.hid (D2.out.then h)
      clear hp h
      go_wp2_with fail
      exact bodyPost_end (results_none rfl _ _ _) rfl (D3.out.to (by simp only [List.nil_append, List.cons_append, List.append_assoc, List.append_nil]))
end Go.Proofs.YtboondbognbnnaaGreatDoor

namespace Go.Proofs.YtboondbognbnnaaGreatDoor
open Go.RowKit
/-- a variable's own block -/
def Box1 (g : Nat) (v : Value) (ty : TypeId) (w : World) : Prop := w.heap[g]? = some (.cells #[v] ty (0, 0))
theorem Box1.cell {g : Nat} {v : Value} {ty : TypeId} {w : World} (h : Box1 g v ty w) : w.cell? ⟨g, 0, none⟩ = some v := by rw [Lib.cell_of_heap h]; rfl
theorem Box1.other {g : Nat} {v : Value} {ty : TypeId} {w w' : World} (h : Box1 g v ty w) (ho : Other w w') (h1 : ty ≠ WT) (h2 : ty ≠ 5) : Box1 g v ty w' := (ho g _ _ _ h h1 h2).trans h
theorem Box1.new (w : World) (v : Value) (ty : TypeId) : Box1 w.heap.size v ty (w.alloc (.cells #[v] ty)) := heap_alloc_new w _
theorem Box1.lt {g : Nat} {v : Value} {ty : TypeId} {w : World} (h : Box1 g v ty w) : g < w.heap.size := World.block_lt_of_cell? w _ h.cell
theorem Box1.later {g : Nat} {v : Value} {ty : TypeId} {w w' : World} (h : Box1 g v ty w) (hb : Below w.heap.size w w') : Box1 g v ty w' := (hb.block g h.lt).trans h
/-- between's call of a closure -/
abbrev fn (j : FuncId) (cap : Array Value) : Value := .func (.func j) #[] cap
theorem between_at {B b : Nat} {l acc o1 : List UInt8} {w w1 : World} (so : Bool) {j : FuncId} {cap : Array Value} (D : Done B b l acc w w1) (hB : B ≤ w.heap.size) (hj : ∀ a w, (callFunc j a).run Tryz.prog w = .ok (.enter j a) w)
    (hF : ∀ l' w', Below B w1 w' → Other w1 w' → Wr B b l' w' → l'.length ≤ 1048576 → Calls Tryz.prog j cap w' (Puts B b l' o1 w')) :
    Calls Tryz.prog 117 #[ptr b 0, .bool so, fn j cap] w1 (Puts B b (l ++ acc) (if so then 40 :: o1 ++ [41] else o1) w1) :=
  between_calls so D.box D.le (Nat.le_trans hB D.below.size) hj hF
theorem rn_brk (so : Bool) (l : List Pp.Pc) : Pp.rn (Pp.brk so l) = if so then 40 :: Pp.rn l ++ [41] else Pp.rn l := by
  cases so with
  | false => rfl
  | true => simp [Pp.brk, Pp.rn, Pp.rn_append, Pp.Pc.bytes]
set_option maxRecDepth 100000 in
/-- closed's closure, and noun's -/
theorem clo_closed {B b p o g h : Nat} {l : List UInt8} {t : T} {x : TV} {w : World} (hv : VAt t) (hg : Box1 g (ptr b 0) 111 w) (hh : Box1 h (ptr p o) 75 w) (ht : TAt B t p o x w) (hW : Wr B b l w) (hl : l.length ≤ 1048576) (hB : B ≤ w.heap.size) (hT : Tabs B w) :
    Calls Tryz.prog 120 #[ptr g 0, ptr h 0] w (Puts B b l (Pp.rn (Pp.phrase t)) w) := by
  have c0 := hg.cell
  have c1 := hh.cell
  have HC := Lib.hid (hv B b p o x l w ht hW hl hB hT)
  clear hg hh ht hW hl hB hT
  go_enter Tryz.func120, Tryz.ntmps120
  go_wp2_with fail
  refine HC.out.mono ?_
  intro e w1 hp
  rcases hp.two with ⟨rfl, h⟩ | ⟨ps, rfl, h⟩
  rotate_left
  · exact ⟨rfl, h.puts⟩
  have D1 := Lib.hid h
  clear hp h
  go_wp2_with fail
  exact bodyPost_end (results_none rfl _ _ _) rfl D1.out.puts
set_option maxRecDepth 100000 in
theorem clo_noun {B b p o g h : Nat} {l : List UInt8} {t : T} {x : TV} {w : World} (hv : NAt t) (hg : Box1 g (ptr b 0) 111 w) (hh : Box1 h (ptr p o) 75 w) (ht : TAt B t p o x w) (hW : Wr B b l w) (hl : l.length ≤ 1048576) (hB : B ≤ w.heap.size) (hT : Tabs B w) :
    Calls Tryz.prog 118 #[ptr g 0, ptr h 0] w (Puts B b l (Pp.rn (Pp.noun t)) w) := by
  have c0 := hg.cell
  have c1 := hh.cell
  have HC := Lib.hid (hv B b p o x l w ht hW hl hB hT)
  clear hg hh ht hW hl hB hT
  go_enter Tryz.func118, Tryz.ntmps118
  go_wp2_with fail
  refine HC.out.mono ?_
  intro e w1 hp
  rcases hp.two with ⟨rfl, h⟩ | ⟨ps, rfl, h⟩
  rotate_left
  · exact ⟨rfl, h.puts⟩
  have D1 := Lib.hid h
  clear hp h
  go_wp2_with fail
  exact bodyPost_end (results_none rfl _ _ _) rfl D1.out.puts
theorem closed_enter (a : Array Value) (w : World) : (callFunc 120 a).run Tryz.prog w = .ok (.enter 120 a) w := enters_of Tryz.func120 (by kernel_rfl) rfl a w
set_option maxRecDepth 100000 in
set_option maxHeartbeats 4000000 in
theorem closed_all {t : T} (hv : VAt t) : CAt t := by
  intro B b p o x l w ht hW hl hB hT
  have htot : Pp.rn (Pp.cl t) = if (!Pp.whole t.kind) then 40 :: Pp.rn (Pp.phrase t) ++ [41] else Pp.rn (Pp.phrase t) := rn_brk _ _
  rw [htot]
  have c0 := ht.kind
  have hpl : p < w.heap.size := Nat.lt_of_lt_of_le ht.lt hB
  have D0 := Lib.hid (Done.start hW hl)
  have hA1 := (Below.refl w.heap.size w).alloc (Nat.le_refl _) (.cells #[ptr b 0] 111)
  have hA2 := hA1.alloc (by simp) (.cells #[ptr p o] 75)
  have D1 := Lib.hid (D0.out.later hB hA2)
  have G1 := Lib.hid ((Box1.new w (ptr b 0) 111).later ((Below.refl _ _).alloc (Nat.le_refl _) (.cells #[ptr p o] 75)))
  have g2 := Box1.new (w.alloc (.cells #[ptr b 0] 111)) (ptr p o) 75
  rw [show (w.alloc (.cells #[ptr b 0] 111)).heap.size = w.heap.size + 1 by simp] at g2
  have G2 := Lib.hid g2
  clear g2
  have HT := Lib.hid hT
  have HB := Lib.hid hB
  have HTt := Lib.hid ht
  have HV := Lib.hid (fun (w1 : World) (D : Done B b l [] w w1) => hv.at_ ht hB hT D)
  clear htot hA1 hA2 ht hW hl hT hB
  by_cases hw : Pp.whole t.kind = true
  · rw [hw]
    simp only [Bool.not_true, Bool.false_eq_true, if_false]
    have hk : t.kind = 20 ∨ t.kind = 21 ∨ t.kind = 23 ∨ t.kind = 44 ∨ t.kind = 45 ∨ t.kind = 46 := by
      simp only [Pp.whole, Bool.or_eq_true, beq_iff_eq] at hw; omega
    clear hw
    generalize t.kind = k at *
    rcases hk with rfl | rfl | rfl | rfl | rfl | rfl
    all_goals
      go_enter Tryz.func82, Tryz.ntmps82
      go_wp2_with fail
      refine (HV.out _ D1.out).mono ?_
      intro e w1 hp
      rcases hp.two with ⟨rfl, h⟩ | ⟨ps, rfl, h⟩
      rotate_left
      · exact ⟨rfl, (D1.out.dead h).to ⟨[], by simp⟩⟩
      have D2 := Lib.hid (D1.out.then h)
      clear hp h
      go_wp2_with fail
      exact bodyPost_end (results_none rfl _ _ _) rfl (D2.out.to (by simp))
  · have hw : Pp.whole t.kind = false := by simpa using hw
    rw [hw]
    simp only [Bool.not_false, if_true]
    simp only [Pp.whole, Bool.or_eq_false_iff] at hw
    obtain ⟨⟨⟨⟨⟨e20, e21⟩, e23⟩, e44⟩, e45⟩, e46⟩ := hw
    generalize t.kind = k at *
    have HQ := Lib.hid (between_at true D1.out HB.out closed_enter (cap := #[ptr w.heap.size 0, ptr (w.heap.size + 1) 0]) (fun l' w' hb ho hW' hl' => clo_closed hv (G1.out.other ho (by decide) (by decide)) (G2.out.other ho (by decide) (by decide)) (HTt.out.below (D1.out.below.trans hb)) hW' hl' (Nat.le_trans HB.out (Nat.le_trans D1.out.below.size hb.size)) (HT.out.below (D1.out.below.trans hb))))
    go_enter Tryz.func82, Tryz.ntmps82
    go_wp2_with fail
    refine HQ.out.mono ?_
    intro e w1 hp
    rcases hp.two with ⟨rfl, h⟩ | ⟨ps, rfl, h⟩
    rotate_left
    · exact ⟨rfl, (D1.out.dead h).to ⟨[], by simp⟩⟩
    have D2 := Lib.hid (D1.out.then h)
    clear hp h
    go_wp2_with fail
    exact bodyPost_end (results_none rfl _ _ _) rfl (D2.out.to (by simp))
end Go.Proofs.YtboondbognbnnaaGreatDoor
