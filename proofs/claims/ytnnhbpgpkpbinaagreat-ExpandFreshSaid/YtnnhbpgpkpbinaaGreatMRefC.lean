/- The document's answer, package abacusref13: all. The document's answer, package abacusref13: all by a kind's letters; right. -/
import Derived.Test.YtnnhbpgpkpbinaaGreatMRefB
import Derived.Test.YtnnhbpgpkpbinaaGreatMTermD
import Derived.Handy
set_option linter.unusedVariables false
set_option linter.unusedSimpArgs false
namespace Go.Proofs.YtnnhbpgpkpbinaaGreat
open Go.RowKit

/-- the kids of a list lie where a slice says -/
def KidsAt (w : World) (B : Nat) (ka : Option Addr) (l : List T) : Prop :=
  ∀ (j : Nat) (u : T), l[j]? = some u → ∃ b o y, ka = some ⟨b, o, none⟩ ∧ b < B ∧ At w b (o + j * 6) y ∧ Rep w B u y

/-- fits, its answer known -/
theorem fits_known {u : T} {y : TV} {c : UInt8} {v : Bool} (hk : y.kind = u.kind) (ht : y.text = u.text) (hv : T.isOf u c = v) (W : World) :
    Calls Tryz.prog 79 #[.agg #[.int .i64 y.kind, .string y.text, .int .i64 y.n, .slice y.sa y.sl y.sc, .slice y.aa y.al y.ac, .slice y.ka y.kl y.kc], .int .u8 c.toNat] W fun e w' => e = .returned (.bool v) ∧ Below W.heap.size W w' := by
  have h := rfits_calls y c.toNat W
  rw [hk, ht, ← T.isOf_isK, hv] at h
  exact h

def RAllPost (b : Bool) (w : World) (e : Ending) (w' : World) : Prop := e = .returned (.bool b) ∧ Below w.heap.size w w'
theorem RAllPost.mk' {a b : Bool} {w w' : World} (h : b = a) (hb : Below w.heap.size w w') : RAllPost a w (.returned (.bool b)) w' := ⟨by rw [h], hb⟩

set_option maxRecDepth 100000 in
set_option maxHeartbeats 4000000 in
theorem rall_many (l : List T) (s : ByteArray) (ka : Option Addr) (kl kc B : Nat) (w : World) (hl : kl = l.length) (hk1 : kl ≤ 2199023255552) (hr : KidsAt w B ka l) (hB : B ≤ w.heap.size) (h2 : s.size = 2) (hp : s[1].toNat = 43) :
    Calls Tryz.prog 68 #[.slice ka kl kc, .string s] w (RAllPost (l.all (T.isOf · s[0])) w) := by
  have HL := Lib.hid hl
  have HR := Lib.hid hr
  have q1 : ((s[1].toNat : Int) == 42) = false := by rw [hp]; rfl
  have q2 : ((s[1].toNat : Int) == 43) = true := by rw [hp]; rfl
  clear hl hr hp
  go_enter Tryz.func68, Tryz.ntmps68
  go_wp2_with fail
  go_loopw [6] (fun i wr => ∃ k : Nat, k ≤ kl ∧ i = .int .i64 k ∧ Hid (okTill l (fun _ => s[0]) k) ∧ Below w.heap.size w wr) (fun i _ => kl - (intOf i).toNat)
  case atStart => exact ⟨0, Nat.zero_le _, rfl, okTill_zero _ _, Below.refl _ _⟩
  case round =>
    obtain ⟨k, hk, rfl, hok, hbel⟩ := hrel
    by_cases hlt : k < kl
    · obtain ⟨u, hu⟩ : ∃ u, l[k]? = some u := ⟨l[k]'(by rw [← HL.out]; exact hlt), by simp⟩
      obtain ⟨b, o, y, he, hb, hat, hru⟩ := HR.out k u hu
      have hat' := hat.keep hb (Keeps.of_below hbel hB)
      have HU := Lib.hid hu
      have hbw : b < wr.heap.size := by have := hbel.size; omega
      obtain ⟨c0, c1, c2, c3, c4, c5⟩ := hat'
      have HB := Lib.hid hbel
      rw [he]
      cases hv : T.isOf u s[0]
      all_goals
        have HC := Lib.hid (fits_known (y := y) (c := s[0]) hru.kind hru.text hv)
        have HV := Lib.hid hv
        clear hu hat hru he hbel hv
        go_wp2_with fail
        refine still_tail 6 (by kernel_rfl) (by kernel_rfl) ?_
        simp only [List.take_succ_cons, List.take_zero, List.drop_succ_cons, List.drop_zero]
        repeat still_step
        refine wpStill_nil ?_
        go_wp2_with (go_at_call 79; refine (HC.out _).mono ?_; rintro e w2 ⟨rfl, hb2⟩)
        have HB2 := Lib.hid (HB.out.drew.trans (hb2.mono HB.out.size))
        clear hb2 c0 c1 c2 c3 c4 c5
      · go_ret
        exact RAllPost.mk' (by rw [not_all HU.out HV.out]) HB2.out
      · go_roundw
        case rel => exact ⟨k + 1, by omega, by go_num, okTill_succ hok.out HU.out HV.out, HB2.out⟩
        case measure => simp [intOf]; omega
    · obtain rfl : k = kl := by omega
      have HB := Lib.hid hbel
      clear hbel
      go_wp2_with fail
      go_ret
      exact RAllPost.mk' (by rw [okTill_all (by rw [← HL.out]; exact hok.out)]) HB.out
set_option maxRecDepth 100000 in
set_option maxHeartbeats 4000000 in
theorem rall_star (l : List T) (s : ByteArray) (ka : Option Addr) (kl kc B : Nat) (w : World) (hm : 2 ≤ kl ∧ kl ≤ 17) (hl : kl = l.length) (hk1 : kl ≤ 2199023255552) (hr : KidsAt w B ka l) (hB : B ≤ w.heap.size) (h2 : s.size = 2) (hp : s[1].toNat = 42) :
    Calls Tryz.prog 68 #[.slice ka kl kc, .string s] w (RAllPost (l.all (T.isOf · s[0])) w) := by
  have HL := Lib.hid hl
  have HR := Lib.hid hr
  have q1 : ((s[1].toNat : Int) == 42) = true := by rw [hp]; rfl
  have q2 : decide ((kl : Int) < 2) = false := by simp; omega
  have q3 : decide ((17 : Int) < (kl : Int)) = false := by simp; omega
  clear hl hr hp
  go_enter Tryz.func68, Tryz.ntmps68
  go_wp2_with fail
  go_loopw [6] (fun i wr => ∃ k : Nat, k ≤ kl ∧ i = .int .i64 k ∧ Hid (okTill l (fun _ => s[0]) k) ∧ Below w.heap.size w wr) (fun i _ => kl - (intOf i).toNat)
  case atStart => exact ⟨0, Nat.zero_le _, rfl, okTill_zero _ _, Below.refl _ _⟩
  case round =>
    obtain ⟨k, hk, rfl, hok, hbel⟩ := hrel
    by_cases hlt : k < kl
    · obtain ⟨u, hu⟩ : ∃ u, l[k]? = some u := ⟨l[k]'(by rw [← HL.out]; exact hlt), by simp⟩
      obtain ⟨b, o, y, he, hb, hat, hru⟩ := HR.out k u hu
      have hat' := hat.keep hb (Keeps.of_below hbel hB)
      have HU := Lib.hid hu
      have hbw : b < wr.heap.size := by have := hbel.size; omega
      obtain ⟨c0, c1, c2, c3, c4, c5⟩ := hat'
      have HB := Lib.hid hbel
      rw [he]
      cases hv : T.isOf u s[0]
      all_goals
        have HC := Lib.hid (fits_known (y := y) (c := s[0]) hru.kind hru.text hv)
        have HV := Lib.hid hv
        clear hu hat hru he hbel hv
        go_wp2_with fail
        refine still_tail 6 (by kernel_rfl) (by kernel_rfl) ?_
        simp only [List.take_succ_cons, List.take_zero, List.drop_succ_cons, List.drop_zero]
        repeat still_step
        refine wpStill_nil ?_
        go_wp2_with (go_at_call 79; refine (HC.out _).mono ?_; rintro e w2 ⟨rfl, hb2⟩)
        have HB2 := Lib.hid (HB.out.drew.trans (hb2.mono HB.out.size))
        clear hb2 c0 c1 c2 c3 c4 c5
      · go_ret
        exact RAllPost.mk' (by rw [not_all HU.out HV.out]) HB2.out
      · go_roundw
        case rel => exact ⟨k + 1, by omega, by go_num, okTill_succ hok.out HU.out HV.out, HB2.out⟩
        case measure => simp [intOf]; omega
    · obtain rfl : k = kl := by omega
      have HB := Lib.hid hbel
      clear hbel
      go_wp2_with fail
      go_ret
      exact RAllPost.mk' (by rw [okTill_all (by rw [← HL.out]; exact hok.out)]) HB.out

set_option maxRecDepth 100000 in
set_option maxHeartbeats 4000000 in
theorem rall_few (s : ByteArray) (ka : Option Addr) (kl kc : Nat) (w : World) (hk1 : kl ≤ 2199023255552) (h2 : s.size = 2) (hp : s[1].toNat = 42) (hm : ¬ (2 ≤ kl ∧ kl ≤ 17)) :
    Calls Tryz.prog 68 #[.slice ka kl kc, .string s] w (RAllPost false w) := by
  have q1 : ((s[1].toNat : Int) == 42) = true := by rw [hp]; rfl
  clear hp
  by_cases h : kl < 2
  · have q2 : decide ((kl : Int) < 2) = true := by simp; omega
    go_enter Tryz.func68, Tryz.ntmps68
    go_wp2_with fail
    all_goals go_ret
    all_goals exact RAllPost.mk' rfl (Below.refl _ _)
  · have q2 : decide ((kl : Int) < 2) = false := by simp; omega
    have q3 : decide ((17 : Int) < (kl : Int)) = true := by simp; omega
    go_enter Tryz.func68, Tryz.ntmps68
    go_wp2_with fail
    all_goals go_ret
    all_goals exact RAllPost.mk' rfl (Below.refl _ _)

/-- letters without a star or a plus -/
structure PlainS (s : ByteArray) (p : List UInt8) : Prop where
  list : s.data.toList = p
  len : s.size = p.length
  far : (h : 1 < s.size) → ((s[1].toNat : Int) == 42) = false ∧ ((s[1].toNat : Int) == 43) = false

set_option maxRecDepth 100000 in
set_option maxHeartbeats 4000000 in
theorem rall_len (l : List T) (s : ByteArray) (p : List UInt8) (ka : Option Addr) (kl kc : Nat) (w : World) (hl : kl = l.length) (hk1 : kl ≤ 2199023255552) (hs : PlainS s p) (hp3 : p.length ≤ 3) (hne : kl ≠ s.size) :
    Calls Tryz.prog 68 #[.slice ka kl kc, .string s] w (RAllPost (T.allOf l p) w) := by
  have HR := Lib.hid (allOf_len (p := p) (l := l) (by rw [← hl, ← hs.len]; exact hne))
  have hsz : s.size ≤ 3 := by rw [hs.len]; exact hp3
  have qn : ((kl : Int) != (s.size : Int)) = true := by simp; omega
  by_cases h : 1 < s.size
  · obtain ⟨q1, q2⟩ := hs.far h
    clear hs hl
    go_enter Tryz.func68, Tryz.ntmps68
    go_wp2_with fail
    all_goals go_ret
    all_goals exact RAllPost.mk' (by rw [HR.out]) (Below.refl _ _)
  · clear hs hl
    have q0 : decide ((1 : Int) < (s.size : Int)) = false := by simp; omega
    go_enter Tryz.func68, Tryz.ntmps68
    go_wp2_with fail
    all_goals go_ret
    all_goals exact RAllPost.mk' (by rw [HR.out]) (Below.refl _ _)

set_option maxRecDepth 100000 in
set_option maxHeartbeats 4000000 in
theorem rall_each (l : List T) (s : ByteArray) (p : List UInt8) (ka : Option Addr) (kl kc B : Nat) (w : World) (hl : kl = l.length) (hk1 : kl ≤ 2199023255552) (hr : KidsAt w B ka l) (hB : B ≤ w.heap.size) (hs : PlainS s p) (hp3 : p.length ≤ 3) (heq : kl = s.size) :
    Calls Tryz.prog 68 #[.slice ka kl kc, .string s] w (RAllPost (T.allOf l p) w) := by
  subst heq
  have HL := Lib.hid hl
  have HR := Lib.hid hr
  have HP := Lib.hid hs
  have hsz : s.size ≤ 3 := by rw [hs.len]; exact hp3
  have hq : (1 < s.size ∧ decide ((1 : Int) < (s.size : Int)) = true ∧ ∃ h : 1 < s.size, ((s[1].toNat : Int) == 42) = false ∧ ((s[1].toNat : Int) == 43) = false) ∨ (¬ 1 < s.size ∧ decide ((1 : Int) < (s.size : Int)) = false) := by
    by_cases h : 1 < s.size
    · exact Or.inl ⟨h, by simp; omega, h, hs.far h⟩
    · exact Or.inr ⟨h, by simp; omega⟩
  clear hl hr hs
  go_enter Tryz.func68, Tryz.ntmps68
  rcases hq with ⟨g0, g1, g2, g3, g4⟩ | ⟨g0, g1⟩
  all_goals
    go_wp2_with fail
    go_loopw [7] (fun i wr => ∃ k : Nat, k ≤ s.size ∧ i = .int .i64 k ∧ Hid (okTill l (fun i => p.getD i 0) k) ∧ Below w.heap.size w wr) (fun i _ => s.size - (intOf i).toNat)
    case atStart => exact ⟨0, Nat.zero_le _, rfl, okTill_zero _ _, Below.refl _ _⟩
    case round =>
      obtain ⟨k, hk, rfl, hok, hbel⟩ := hrel
      by_cases hlt : k < s.size
      · have hks : k < s.size := by omega
        have hlk : k < l.length := by rw [← HL.out]; exact hlt
        obtain ⟨u, hu⟩ : ∃ u, l[k]? = some u := ⟨l[k]'hlk, by simp⟩
        obtain ⟨b, o, y, he, hb, hat, hru⟩ := HR.out k u hu
        have hat' := hat.keep hb (Keeps.of_below hbel hB)
        have HU := Lib.hid hu
        have hc : s[k] = p.getD k 0 := by
          have e : s.data.toList[k]? = some s[k] := by rw [List.getElem?_eq_getElem (by rw [Array.length_toList]; exact hks)]; rfl
          rw [HP.out.list] at e
          rw [List.getD, e]; rfl
        have HCC := Lib.hid hc
        clear hc
        have hbw : b < wr.heap.size := by have := hbel.size; omega
        obtain ⟨c0, c1, c2, c3, c4, c5⟩ := hat'
        have HB := Lib.hid hbel
        rw [he]
        cases hv : T.isOf u s[k]
        all_goals
          have HC := Lib.hid (fits_known (y := y) (c := s[k]) hru.kind hru.text hv)
          have HV := Lib.hid hv
          clear hu hat hru he hbel hv
          go_wp2_with fail
          refine still_tail 7 (by kernel_rfl) (by kernel_rfl) ?_
          simp only [List.take_succ_cons, List.take_zero, List.drop_succ_cons, List.drop_zero]
          repeat still_step
          refine wpStill_nil ?_
          go_wp2_with (go_at_call 79; refine (HC.out _).mono ?_; rintro e w2 ⟨rfl, hb2⟩)
          have HB2 := Lib.hid (HB.out.drew.trans (hb2.mono HB.out.size))
          clear hb2 c0 c1 c2 c3 c4 c5
        · go_ret
          exact RAllPost.mk' (by rw [not_allOf HU.out (by rw [← HCC.out]; exact HV.out)]) HB2.out
        · go_roundw
          case rel => exact ⟨k + 1, by omega, by go_num, okTill_succ hok.out HU.out (by show T.isOf u (p.getD k 0) = true; rw [← HCC.out]; exact HV.out), HB2.out⟩
          case measure => simp [intOf]; omega
      · have hkk : k = l.length := by rw [← HL.out]; omega
        have HB := Lib.hid hbel
        clear hbel
        go_wp2_with fail
        go_ret
        exact RAllPost.mk' (by rw [allOf_okTill (by rw [← HL.out, HP.out.len]) (by rw [← hkk]; exact hok.out)]) HB.out
end Go.Proofs.YtnnhbpgpkpbinaaGreat

namespace Go.Proofs.YtnnhbpgpkpbinaaGreat
open Go.RowKit

def plainPats : List (List UInt8) := [[118, 110], [118, 110, 110], [110], [110, 98, 98], [110, 98], [111], [98], [118], [111, 118], [118, 111], [118, 118, 118], [], [118, 118]]
theorem ite_mem {α : Type} {c : Prop} [Decidable c] {a b : α} {l : List α} (h1 : c → a ∈ l) (h2 : ¬ c → b ∈ l) : (if c then a else b) ∈ l := by
  by_cases h : c
  · rw [if_pos h]; exact h1 h
  · rw [if_neg h]; exact h2 h
theorem pattern_plain (k : Int) (h5 : k ≠ 5) (h14 : k ≠ 14) (h43 : k ≠ 43) : T.pattern k ∈ plainPats := by
  unfold T.pattern
  repeat' refine ite_mem (fun h => ?_) (fun h => ?_)
  all_goals first | decide | (exfalso; omega)
theorem plain_of : ∀ p ∈ plainPats, PlainS (T.txt p) p ∧ p.length ≤ 3 ∧ p ≠ [115] ∧ p ≠ [110, 43] ∧ p ≠ [118, 43] := by
  intro p hp
  simp only [plainPats, List.mem_cons, List.not_mem_nil, or_false] at hp
  rcases hp with rfl | rfl | rfl | rfl | rfl | rfl | rfl | rfl | rfl | rfl | rfl | rfl | rfl
  all_goals exact ⟨⟨rfl, rfl, fun h => by first | exact ⟨rfl, rfl⟩ | exact absurd h (by decide)⟩, by decide, by decide, by decide, by decide⟩

theorem letters_far (k : Int) (hk : T.cls k ≠ 0) : T.letters k ≠ [63] := by
  unfold T.letters
  rw [if_neg hk]
  by_cases h5 : k = 5
  · rw [if_pos h5]; decide
  by_cases h14 : k = 14
  · rw [if_neg h5, if_pos h14]; decide
  by_cases h43 : k = 43
  · rw [if_neg h5, if_neg h14, if_pos h43]; decide
  rw [if_neg h5, if_neg h14, if_neg h43]
  intro h
  have := pattern_plain k h5 h14 h43
  rw [h] at this
  revert this
  decide

theorem rall_calls (k : Int) (hk : T.cls k ≠ 0) (l : List T) (ka : Option Addr) (kl kc B : Nat) (w : World) (hl : kl = l.length) (hk1 : kl ≤ 2199023255552) (hr : KidsAt w B ka l) (hB : B ≤ w.heap.size) :
    Calls Tryz.prog 68 #[.slice ka kl kc, .string (T.txt (T.letters k))] w (RAllPost (T.kidsFor (T.pattern k) l) w) := by
  by_cases h5 : k = 5
  · subst h5
    by_cases hm : 2 ≤ kl ∧ kl ≤ 17
    · have h := rall_star l (T.txt [110, 42]) ka kl kc B w hm hl hk1 hr hB rfl rfl
      have e : T.kidsFor (T.pattern 5) l = l.all (T.isOf · 110) := by
        show (decide (2 ≤ l.length) && decide (l.length ≤ 17) && l.all (T.isOf · 110)) = _
        rw [← hl]; simp [hm.1, hm.2]
      rw [e]; exact h
    · have h := rall_few (T.txt [110, 42]) ka kl kc w hk1 rfl rfl hm
      have e : T.kidsFor (T.pattern 5) l = false := by
        show (decide (2 ≤ l.length) && decide (l.length ≤ 17) && l.all (T.isOf · 110)) = _
        rw [← hl]
        by_cases h2 : 2 ≤ kl
        · have : ¬ kl ≤ 17 := fun h => hm ⟨h2, h⟩
          simp [this]
        · simp [h2]
      rw [e]; exact h
  by_cases h43 : k = 43
  · subst h43
    by_cases hm : 2 ≤ kl ∧ kl ≤ 17
    · have h := rall_star l (T.txt [118, 42]) ka kl kc B w hm hl hk1 hr hB rfl rfl
      have e : T.kidsFor (T.pattern 43) l = l.all (T.isOf · 118) := by
        show (decide (2 ≤ l.length) && decide (l.length ≤ 17) && l.all (T.isOf · 118)) = _
        rw [← hl]; simp [hm.1, hm.2]
      rw [e]; exact h
    · have h := rall_few (T.txt [118, 42]) ka kl kc w hk1 rfl rfl hm
      have e : T.kidsFor (T.pattern 43) l = false := by
        show (decide (2 ≤ l.length) && decide (l.length ≤ 17) && l.all (T.isOf · 118)) = _
        rw [← hl]
        by_cases h2 : 2 ≤ kl
        · have : ¬ kl ≤ 17 := fun h => hm ⟨h2, h⟩
          simp [this]
        · simp [h2]
      rw [e]; exact h
  by_cases h14 : k = 14
  · subst h14
    exact rall_many l (T.txt [115, 43]) ka kl kc B w hl hk1 hr hB rfl rfl
  · obtain ⟨hp, hp3, n1, n2, n3⟩ := plain_of _ (pattern_plain k h5 h14 h43)
    have e1 : T.letters k = T.pattern k := by simp [T.letters, hk, h5, h14, h43]
    have e2 : T.kidsFor (T.pattern k) l = T.allOf l (T.pattern k) := by simp only [T.kidsFor, n1, n2, n3, if_false]
    rw [e1, e2]
    by_cases heq : kl = (T.txt (T.pattern k)).size
    · exact rall_each l _ _ ka kl kc B w hl hk1 hr hB hp hp3 heq
    · exact rall_len l _ _ ka kl kc w hl hk1 hp hp3 heq

/-- is N as the kind says? -/
def T.cntK (k n : Int) : Bool := if k = 23 then n == 1 || n == 2 else n == 0
theorem node_eq (t : T) (b : Bool) : t.node b = (T.cls t.kind != 0 && (T.kidsFor (T.pattern t.kind) t.kids && (T.textK t.kind t.text.data.toList b && (T.numK t.kind t.shape t.atoms && T.cntK t.kind t.n)))) := by
  unfold T.node T.fields T.kidsOk T.textK T.numK T.cntK
  by_cases h2 : t.kind = 2 ∨ t.kind = 11
  · rcases h2 with h | h <;> simp only [h] <;> simp <;> cases T.named t.text.data.toList 97 122 <;> cases b <;> simp <;> (try cases (t.n == 0)) <;> simp [Bool.and_comm, Bool.and_left_comm, Bool.and_assoc]
  · have e1 : (t.kind == 2 || t.kind == 11) = false := by simp; omega
    simp only [e1, Bool.and_false, Bool.false_and, Bool.not_false, Bool.and_true, h2, if_false]
    by_cases h20 : t.kind = 20
    · simp [h20, Bool.and_comm, Bool.and_left_comm, Bool.and_assoc]
    · by_cases h21 : t.kind = 21
      · simp [h21, Bool.and_comm, Bool.and_left_comm, Bool.and_assoc]
      · simp only [h20, h21, if_false]
        simp [Bool.and_comm, Bool.and_left_comm, Bool.and_assoc]

theorem KidsAt.of_rep {w : World} {B : Nat} {t : T} {x : TV} (h : Rep w B t x) : KidsAt w B x.ka t.kids := fun _ _ hj => h.kid hj

def RightPost (t : T) (b : Bool) (w : World) (e : Ending) (w' : World) : Prop := e = .returned (.bool (t.node b)) ∧ Below w.heap.size w w'
theorem RightPost.mk' {t : T} {b v : Bool} {w w' : World} (h : v = t.node b) (hb : Below w.heap.size w w') : RightPost t b w (.returned (.bool v)) w' := ⟨by rw [h], hb⟩

set_option maxRecDepth 100000 in
set_option maxHeartbeats 4000000 in
theorem right_calls (t : T) (x : TV) (d : Int) (b : Bool) (B : Nat) (w : World) (hr : Rep w B t x) (hB : B ≤ w.heap.size) :
    Calls Tryz.prog 40 #[nodeV x d b] w (RightPost t b w) := by
  have HQ := Lib.hid (node_eq t b)
  rw [← hr.kind, ← hr.text, ← hr.n] at HQ
  by_cases hc : T.cls x.kind = 0
  · have hL : ∀ W, Calls Tryz.prog 67 #[.int .i64 x.kind] W fun e w' => e = .returned (.string ⟨#[63]⟩) ∧ W = w' := by
      intro W
      have h := letters_calls x.kind W
      rw [show T.letters x.kind = [63] by simp [T.letters, hc]] at h
      exact h
    have HL := Lib.hid hL
    have hR : t.node b = false := by rw [HQ.out, hc]; rfl
    have HR := Lib.hid hR
    clear hL hR hr HQ
    obtain ⟨kind, text, n, sa, sl, sc, aa, al, ac, ka, kl, kc⟩ := x
    simp only [nodeV] at HL ⊢
    go_enter Tryz.func40, Tryz.ntmps40
    go_wp2_with (go_at_call 67; refine (HL.out _).mono ?_; rintro e w1 ⟨rfl, rfl⟩)
    all_goals go_ret
    all_goals exact RightPost.mk' (by rw [HR.out]) ((Below.refl _ _).alloc (Nat.le_refl _) _)
  · have hL := fun W => letters_calls x.kind W
    have hA := fun W (hb : Below w.heap.size w W) => rall_calls x.kind hc t.kids x.ka x.kl x.kc B W hr.kl hr.wee.l1 (fun j u hj => (hr.below hb hB).kid hj) (Nat.le_trans hB hb.size)
    have hT := fun W => rtext_calls x d b W hr.wee.ts
    have hN := fun W (hb : Below w.heap.size w W) => rnum_calls t x B W (hr.below hb hB) (Nat.le_trans hB hb.size)
    have hq0 : ((T.txt (T.letters x.kind)).toList == [63]) = false := by
      rw [ByteArray.toList_eq, beq_eq_false_iff_ne]
      simpa [T.txt] using letters_far x.kind hc
    rw [← hr.kind] at hN
    have HC : Hid ((T.cls x.kind != 0) = true) := by show _ = _; simpa using hc
    generalize T.txt (T.letters x.kind) = s0 at hL hA hq0
    generalize T.kidsFor (T.pattern x.kind) t.kids = bA at hA HQ
    generalize T.textK x.kind x.text.data.toList b = bT at hT HQ
    generalize T.numK x.kind t.shape t.atoms = bN at hN HQ
    have hB0 : w.heap.size ≤ w.heap.size := Nat.le_refl _
    have HL := Lib.hid hL
    have HA := Lib.hid hA
    have HT := Lib.hid hT
    have HN := Lib.hid hN
    clear hL hA hT hN hr hc
    obtain ⟨kind, text, n, sa, sl, sc, aa, al, ac, ka, kl, kc⟩ := x
    simp only [nodeV, TV.val, TV.cells] at HL HA HT HN HC HQ ⊢
    cases bA
    · have HR : Hid (t.node b = false) := by show _ = _; rw [HQ.out]; simp
      clear HQ HT HN HC
      go_enter Tryz.func40, Tryz.ntmps40
      go_wp2_with (first
        | (go_at_call 67; refine (HL.out _).mono ?_; rintro e w1 ⟨rfl, rfl⟩)
        | (go_at_call 68; refine (HA.out _ (by go_grown)).mono ?_; rintro e w1 ⟨rfl, hb⟩; have HB := Lib.hid hb; clear hb))
      all_goals go_ret
      all_goals exact RightPost.mk' (by rw [HR.out]) (((Below.refl _ _).alloc (Nat.le_refl _) _).trans (HB.out.mono (by simp)))
    cases bT
    · have HR : Hid (t.node b = false) := by show _ = _; rw [HQ.out]; simp
      clear HQ HN HC
      go_enter Tryz.func40, Tryz.ntmps40
      go_wp2_with (first
        | (go_at_call 67; refine (HL.out _).mono ?_; rintro e w1 ⟨rfl, rfl⟩)
        | (go_at_call 68; refine (HA.out _ (by go_grown)).mono ?_; rintro e w1 ⟨rfl, hb⟩; have HB := Lib.hid (Below.trans ((Below.refl w.heap.size w).alloc (Nat.le_refl _) _) (hb.mono (by simp))); obtain ⟨hc1, hf1⟩ := bcell hb; have hs1 := hb.size; (try simp at hs1); have hz1 : w.heap.size < w1.heap.size := (by omega); clear hb hs1)
        | (go_at_call 69; refine (HT.out _).mono ?_; rintro e w2 ⟨rfl, hb⟩; have HB2 := Lib.hid (HB.out.trans (hb.mono (by omega))); obtain ⟨hc2, hf2⟩ := bcell hb; have hs2 := hb.size; have hz2 : w.heap.size < w2.heap.size := (by omega); clear hb hs2)
        | (go_at_call 70; refine (HN.out _ HB2.out).mono ?_; rintro e w3 ⟨rfl, hb⟩; have HB3 := Lib.hid (HB2.out.trans (hb.mono (by omega))); obtain ⟨hc3, hf3⟩ := bcell hb; clear hb))
      all_goals go_ret
      all_goals exact RightPost.mk' (by rw [HR.out]) HB2.out
    cases bN
    · have HR : Hid (t.node b = false) := by show _ = _; rw [HQ.out]; simp
      clear HQ HC
      go_enter Tryz.func40, Tryz.ntmps40
      go_wp2_with (first
        | (go_at_call 67; refine (HL.out _).mono ?_; rintro e w1 ⟨rfl, rfl⟩)
        | (go_at_call 68; refine (HA.out _ (by go_grown)).mono ?_; rintro e w1 ⟨rfl, hb⟩; have HB := Lib.hid (Below.trans ((Below.refl w.heap.size w).alloc (Nat.le_refl _) _) (hb.mono (by simp))); obtain ⟨hc1, hf1⟩ := bcell hb; have hs1 := hb.size; (try simp at hs1); have hz1 : w.heap.size < w1.heap.size := (by omega); clear hb hs1)
        | (go_at_call 69; refine (HT.out _).mono ?_; rintro e w2 ⟨rfl, hb⟩; have HB2 := Lib.hid (HB.out.trans (hb.mono (by omega))); obtain ⟨hc2, hf2⟩ := bcell hb; have hs2 := hb.size; have hz2 : w.heap.size < w2.heap.size := (by omega); clear hb hs2)
        | (go_at_call 70; refine (HN.out _ HB2.out).mono ?_; rintro e w3 ⟨rfl, hb⟩; have HB3 := Lib.hid (HB2.out.trans (hb.mono (by omega))); obtain ⟨hc3, hf3⟩ := bcell hb; clear hb))
      all_goals go_ret
      all_goals exact RightPost.mk' (by rw [HR.out]) HB3.out
    · have HR : Hid (t.node b = T.cntK kind n) := by show _ = _; rw [HQ.out, HC.out]; simp
      clear HQ HC
      go_enter Tryz.func40, Tryz.ntmps40
      go_wp2_with (first
        | (go_at_call 67; refine (HL.out _).mono ?_; rintro e w1 ⟨rfl, rfl⟩)
        | (go_at_call 68; refine (HA.out _ (by go_grown)).mono ?_; rintro e w1 ⟨rfl, hb⟩; have HB := Lib.hid (Below.trans ((Below.refl w.heap.size w).alloc (Nat.le_refl _) _) (hb.mono (by simp))); obtain ⟨hc1, hf1⟩ := bcell hb; have hs1 := hb.size; (try simp at hs1); have hz1 : w.heap.size < w1.heap.size := (by omega); clear hb hs1)
        | (go_at_call 69; refine (HT.out _).mono ?_; rintro e w2 ⟨rfl, hb⟩; have HB2 := Lib.hid (HB.out.trans (hb.mono (by omega))); obtain ⟨hc2, hf2⟩ := bcell hb; have hs2 := hb.size; have hz2 : w.heap.size < w2.heap.size := (by omega); clear hb hs2)
        | (go_at_call 70; refine (HN.out _ HB2.out).mono ?_; rintro e w3 ⟨rfl, hb⟩; have HB3 := Lib.hid (HB2.out.trans (hb.mono (by omega))); obtain ⟨hc3, hf3⟩ := bcell hb; clear hb))
      all_goals go_ret
      all_goals refine RightPost.mk' ?_ HB3.out
      all_goals (rw [HR.out]; clear hc1 hf1 hc2 hf2 hc3 hf3; simp_all [T.cntK])
end Go.Proofs.YtnnhbpgpkpbinaaGreat
