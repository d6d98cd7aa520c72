/- What package print writes, as plain data: pieces of a text. What package print writes is cut into the words that it was made of. Each word that print writes is cut as itself. What print writes of a term that may be is cut into its words. What print writes of each kind. What print writes of a term that may be stands as it should, to be cut. What print writes of a term that may be stands as it should, to be cut: all kinds. -/
import Derived.Test.YtboondbognbnnaaGreatDoorQPzA
import Derived.Lib.ItoaNum
set_option linter.unusedVariables false
set_option linter.unusedSimpArgs false
namespace Go.Proofs.YtboondbognbnnaaGreatDoor
namespace Pp
/-- a piece: a blank, or a word of a kind -/
inductive Pc where
  | b
  | w (kind : Int) (s : List UInt8)
def Pc.bytes : Pc → List UInt8
  | .b => [32]
  | .w _ s => s
/-- the text of pieces -/
def rn : List Pc → List UInt8
  | [] => []
  | p :: r => p.bytes ++ rn r
theorem rn_append (a b : List Pc) : rn (a ++ b) = rn a ++ rn b := by
  induction a with
  | nil => rfl
  | cons p r ih => simp only [List.cons_append, rn, ih, List.append_assoc]
/-- a number's digits -/
def dig (n : Int) : List UInt8 := if n < 0 then 95 :: Lib.decDigits n.natAbs else Lib.decDigits n.toNat
def one (rank : Bool) (n : Int) : List UInt8 := if rank && n == 64 then [95] else dig n
def more (rank : Bool) : List Int → List UInt8
  | [] => []
  | n :: r => 32 :: one rank n ++ more rank r
def nums (rank : Bool) : List Int → List UInt8
  | [] => []
  | n :: r => one rank n ++ more rank r
/-- what stands between, or behind, verbs -/
def mark (k : Int) : List Pc :=
  if k = 24 then [.w 5 [47]] else if k = 25 then [.w 5 [92]] else if k = 26 then [.w 5 [92, 46]] else if k = 27 then [.w 5 [126]]
  else if k = 28 then [.w 6 [64]] else if k = 29 then [.w 6 [64, 58]] else if k = 30 ∨ k = 39 ∨ k = 40 then [.w 6 [38]]
  else if k = 31 then [.w 6 [38, 58]] else if k = 32 then [.w 6 [38, 46]] else if k = 33 then [.w 6 [38, 46, 58]] else if k = 38 ∨ k = 41 then [.w 6 [94, 58]]
  else if k = 34 then [.b, .w 6 [46, 46], .b] else if k = 35 then [.b, .w 6 [58, 58], .b] else if k = 36 then [.b, .w 6 [58, 46], .b] else if k = 37 then [.b, .w 6 [58], .b]
  else []
def kindAt (l : List T) (i : Nat) : Int := match l[i]? with | some t => t.kind | none => 0
/-- a verb that stands without brackets behind a conjunction -/
def whole (k : Int) : Bool := k == 20 || k == 21 || k == 23 || k == 44 || k == 45 || k == 46
mutual
/-- does a verb's text begin with a number? -/
def begins : T → Bool
  | .mk k _ _ _ _ l =>
    if k = 22 ∨ k = 39 then kindAt l 0 == 1
    else if whole k then false
    else if k = 43 then l.length == 2 && beginsAt l 1
    else beginsAt l 0
def beginsAt : List T → Nat → Bool
  | [], _ => false
  | t :: _, 0 => begins t
  | _ :: r, i + 1 => beginsAt r i
end
/-- does it end with one? -/
def ends (t : T) : Bool := if t.kind = 22 ∨ t.kind = 42 then true else if t.kind = 40 ∨ t.kind = 41 then kindAt t.kids 1 == 1 else false
def endsAt (l : List T) (i : Nat) : Bool := match l[i]? with | some t => ends t | none => false
mutual
/-- does a noun's text begin with a number? -/
def first : T → Bool
  | .mk k _ _ _ _ l =>
    if k = 1 then true
    else if k = 3 then beginsAt l 0 && !(endsAt l 0 && firstAt l 1)
    else if k = 4 then kindAt l 1 != 3 && kindAt l 1 != 4 && firstAt l 1
    else false
def firstAt : List T → Nat → Bool
  | [], _ => false
  | t :: _, 0 => first t
  | _ :: r, i + 1 => firstAt r i
end
/-- does the verb of a KMon or KDy stand between brackets? -/
def bracketed (k : Int) (l : List T) : Bool := endsAt l 0 && firstAt l (l.length - 1) || k == 4 && beginsAt l 0 && kindAt l 1 == 1
def brk (so : Bool) (l : List Pc) : List Pc := if so then .w 7 [40] :: l ++ [.w 7 [41]] else l
def txt (s : ByteArray) : List UInt8 := s.data.toList
mutual
def phrase : T → List Pc
  | .mk k s n _ a l =>
    if k = 20 then [.w 4 (txt s)]
    else if k = 21 then [.w 3 (txt s)]
    else if k = 22 then nounAt l 0 ++ [.w 6 [34], .w 1 [95]]
    else if k = 23 then .w 7 (if n = 1 then [123, 123, 41, 109] else [123, 123, 41, 100]) :: .b :: bodyAt l 0 ++ [.w 7 [125, 125]]
    else if k = 24 ∨ k = 25 ∨ k = 26 ∨ k = 27 then phraseAt l 0 ++ mark k
    else if k = 39 then nounAt l 0 ++ .w 6 [38] :: closedAt l 1
    else if k = 40 ∨ k = 41 then phraseAt l 0 ++ mark k ++ nounAt l 1
    else if k = 42 then phraseAt l 0 ++ [.w 6 [34], .w 1 (nums true a)]
    else if k = 43 then (if l.length = 2 then phraseAt l 1 else .w 7 [40] :: tiesTail l ++ [.w 7 [41]]) ++ .w 6 [64, 46] :: closedAt l 0
    else if k = 44 ∨ k = 45 ∨ k = 46 then .w 7 [40] :: (if k = 46 then [.w 7 [91, 58], .b] else []) ++ train none l ++ [.w 7 [41]]
    else phraseAt l 0 ++ mark k ++ closedAt l 1
def phraseAt : List T → Nat → List Pc
  | [], _ => []
  | t :: _, 0 => phrase t
  | _ :: r, i + 1 => phraseAt r i
def closedAt : List T → Nat → List Pc
  | [], _ => []
  | t :: _, 0 => brk (!whole t.kind) (phrase t)
  | _ :: r, i + 1 => closedAt r i
/-- verbs tied by '`' -/
def ties : List T → List Pc
  | [] => []
  | [t] => phrase t
  | t :: r => phrase t ++ .w 6 [96] :: ties r
def tiesTail : List T → List Pc
  | [] => []
  | _ :: r => ties r
/-- a train's verbs; p: does the verb ahead end with a number? -/
def train : Option Bool → List T → List Pc
  | _, [] => []
  | p, t :: r => (match p with | none => phrase t | some e => .b :: brk (begins t && e) (phrase t)) ++ train (some (ends t)) r
def noun : T → List Pc
  | .mk k s _ _ a l =>
    if k = 1 then [.w 1 (nums false a)]
    else if k = 2 then [.w 2 (txt s)]
    else if k = 3 then brk (bracketed 3 l) (phraseAt l 0) ++ .b :: nounAt l 1
    else if k = 4 then brk (kindAt l 1 == 3 || kindAt l 1 == 4) (nounAt l 1) ++ .b :: brk (bracketed 4 l) (phraseAt l 0) ++ .b :: nounAt l 2
    else if k = 5 then .w 7 [112, 105, 99, 107, 46] :: .b :: nounAt l 0 ++ .b :: .w 7 [100, 111, 46] :: .b :: orsTail l ++ [.b, .w 7 [101, 110, 100, 46]]
    else []
def nounAt : List T → Nat → List Pc
  | [], _ => []
  | t :: _, 0 => noun t
  | _ :: r, i + 1 => nounAt r i
def ors : List T → List Pc
  | [] => []
  | [t] => noun t
  | t :: r => noun t ++ .b :: .w 7 [111, 114, 46] :: .b :: ors r
def orsTail : List T → List Pc
  | [] => []
  | _ :: r => ors r
def sentence : T → List Pc
  | .mk k s _ _ _ l =>
    (if k = 11 then [.w 2 (txt s), .b, .w 7 [61, 46], .b] else if k = 12 then [.w 7 [105, 102, 46], .b] else if k = 13 then [.w 7 [119, 104, 105, 108, 101, 46], .b] else []) ++ nounAt l 0 ++
    (if k = 12 ∨ k = 13 then .b :: .w 7 [100, 111, 46] :: .b :: bodyAt l 1 ++ (if k = 12 then .w 7 [101, 108, 115, 101, 46] :: .b :: bodyAt l 2 else []) ++ [.w 7 [101, 110, 100, 46]] else [])
def body : T → List Pc
  | .mk _ _ _ _ _ l => sents l
def bodyAt : List T → Nat → List Pc
  | [], _ => []
  | t :: _, 0 => body t
  | _ :: r, i + 1 => bodyAt r i
def sents : List T → List Pc
  | [] => []
  | [t] => sentence t ++ [.b]
  | t :: r => sentence t ++ .w 7 [59] :: .b :: sents r
end
/-- what Verb (c = 3) and Noun (c = 1) answer: a text, or an error -/
def written (t : T) (c : Int) : List UInt8 × Int :=
  if T.may t c ≠ 0 then ([], T.may t c)
  else if 1048576 < (rn (if c = 3 then phrase t else noun t)).length then ([], 2)
  else (rn (if c = 3 then phrase t else noun t), 0)
end Pp
end Go.Proofs.YtboondbognbnnaaGreatDoor

namespace Go.Proofs.YtboondbognbnnaaGreatDoor
namespace Pp
open Pz
theorem span_app (p : UInt8 → Bool) : ∀ (a r : List UInt8), (∀ c ∈ a, p c = true) → headIs p r = false → span p (a ++ r) = a.length
  | [], r, _, h => by
    cases r with
    | nil => rfl
    | cons c r => simp only [headIs] at h; simp [span, h]
  | c :: a, r, ha, h => by
    have := span_app p a r (fun x hx => ha x (by simp [hx])) h
    simp [span, ha c (by simp), this]
/-! numbers -/
theorem ofNat_toNat {k : Nat} (h : k < 10) : (UInt8.ofNat (48 + k)).toNat = 48 + k := by
  rw [UInt8.toNat_ofNat']; omega
theorem digit_ofNat {k : Nat} (h : k < 10) : digit (UInt8.ofNat (48 + k)) = true := by
  simp only [digit, ofNat_toNat h, Bool.and_eq_true, decide_eq_true_eq]; omega
theorem value_app (l : List UInt8) (c : UInt8) : value (l ++ [c]) = value l * 10 + (c.toNat - 48) := by
  simp [value, List.foldl_append]
theorem dd (u : Nat) : (∀ c ∈ Lib.decDigits u, digit c = true) ∧ value (Lib.decDigits u) = u ∧ ∃ c r, Lib.decDigits u = c :: r ∧ (1 ≤ u → c ≠ 48) := by
  induction u using Nat.strongRecOn with
  | _ u ih =>
    rw [Lib.decDigits]
    split
    · rename_i h
      refine ⟨?_, ?_, UInt8.ofNat (48 + u), [], rfl, ?_⟩
      · intro c hc
        rw [List.mem_singleton.1 hc]; exact digit_ofNat h
      · simp only [value, List.foldl_cons, List.foldl_nil, ofNat_toNat h]; omega
      · intro h1 e
        have := congrArg UInt8.toNat e
        rw [ofNat_toNat h] at this
        have e2 : (48 : UInt8).toNat = 48 := rfl
        omega
    · rename_i h
      obtain ⟨h1, h2, c, r, h3, h4⟩ := ih (u / 10) (by omega)
      have hm : u % 10 < 10 := Nat.mod_lt _ (by omega)
      refine ⟨?_, ?_, c, r ++ [UInt8.ofNat (48 + u % 10)], by rw [h3]; rfl, fun _ => h4 (by omega)⟩
      · intro x hx
        rcases List.mem_append.1 hx with hx | hx
        · exact h1 x hx
        · rw [List.mem_singleton.1 hx]; exact digit_ofNat hm
      · rw [value_app, h2, ofNat_toNat hm]; omega
/-- a number's text, or '_' -/
def NumT (p : List UInt8) : Prop := p = [95] ∨ ∃ n, inRange n = true ∧ p = dig n
theorem numberOf_digits {ds : List UInt8} (h : ∀ c ∈ ds, digit c = true) : numberOf ds = (value ds : Int) := by
  unfold numberOf
  split
  · rename_i r; have := h 95 (by simp); simp [digit] at this
  · rfl
theorem numberOf_dig {n : Int} : numberOf (dig n) = n := by
  unfold dig
  split
  · rename_i h
    obtain ⟨_, h2, _⟩ := dd n.natAbs
    show -(value (Lib.decDigits n.natAbs) : Int) = n
    rw [h2]; omega
  · rename_i h
    obtain ⟨h1, h2, _⟩ := dd n.toNat
    rw [numberOf_digits h1, h2]; omega
def noTail (c : UInt8) : Bool := alnum c || c == 95
theorem head_drop (p r : List UInt8) : (p ++ r)[p.length]? = r.head? := by
  rw [List.getElem?_append_right (Nat.le_refl _)]; simp [List.head?_eq_getElem?]
theorem numText {p r : List UInt8} (h : NumT p) (hr : headIs noTail r = false) :
    numLen (p ++ r) = p.length ∧ badTail (p ++ r) = false ∧ badText (p ++ r) = false ∧ (p ++ r).take p.length = p ∧ p ≠ [] ∧ (∀ c ∈ p, c ≠ 32) ∧ (headIs (fun b => b == 95 || digit b) p = true) := by
  have hd : headIs digit r = false := by
    cases r with
    | nil => rfl
    | cons c r => simp only [headIs, noTail, alnum, Bool.or_eq_false_iff] at hr ⊢; exact hr.1.2
  have tail : numLen (p ++ r) = p.length → badTail (p ++ r) = false := by
    intro e
    unfold badTail
    rw [e, head_drop]
    cases r with
    | nil => rfl
    | cons c r => exact hr
  have tk : (p ++ r).take p.length = p := by simp
  rcases h with rfl | ⟨n, hn, rfl⟩
  · have e : numLen ([95] ++ r) = [95].length := by
      have := span_app digit [] r (by simp) hd
      simp only [List.nil_append, List.length_nil] at this
      simp [numLen, signLen, this]
    exact ⟨e, tail e, by unfold badText; rw [e]; simp, tk, by simp, by simp, rfl⟩
  · by_cases h0 : n < 0
    · obtain ⟨h1, h2, c, q, h3, h4⟩ := dd n.natAbs
      have hp : dig n = 95 :: Lib.decDigits n.natAbs := by simp [dig, h0]
      have hv := numberOf_dig (n := n)
      rw [hp] at hv tail tk ⊢
      have e : numLen (95 :: Lib.decDigits n.natAbs ++ r) = (95 :: Lib.decDigits n.natAbs).length := by
        have := span_app digit _ r h1 hd
        simp [numLen, signLen, this]; omega
      refine ⟨e, tail e, ?_, tk, by simp, ?_, rfl⟩
      · unfold badText
        rw [e, tk, hv]
        have hc := h4 (by omega)
        simp only [signLen, List.cons_append, List.head?_cons, if_true, List.drop_succ_cons, List.drop_zero, h3, hn]
        simp [hc]
      · intro c hc
        rcases List.mem_cons.1 hc with rfl | hc
        · decide
        · exact (digit_ne (h1 c hc)).1
    · obtain ⟨h1, h2, c, q, h3, h4⟩ := dd n.toNat
      have hp : dig n = Lib.decDigits n.toNat := by simp [dig, h0]
      have hv := numberOf_dig (n := n)
      rw [hp] at hv tail tk ⊢
      have hc0 : digit c = true := h1 c (by rw [h3]; simp)
      have hs : signLen (Lib.decDigits n.toNat ++ r) = 0 := by
        rw [h3]; simp [signLen, (digit_ne hc0).2]
      have e : numLen (Lib.decDigits n.toNat ++ r) = (Lib.decDigits n.toNat).length := by
        have := span_app digit _ r h1 hd
        simp [numLen, hs, this]
      refine ⟨e, tail e, ?_, tk, by rw [h3]; simp, fun c hc => (digit_ne (h1 c hc)).1, by rw [h3]; simp [headIs, hc0]⟩
      unfold badText
      rw [e, tk, hv, hs, hn]
      have h95 := (digit_ne hc0).2
      rw [h3]
      by_cases hz : 1 ≤ n.toNat
      · have hc := h4 hz
        simp [hc, h95]
      · have hz : n.toNat = 0 := by omega
        have hq : q = [] := by
          have : Lib.decDigits 0 = [48] := by rw [Lib.decDigits]; rfl
          rw [hz, this] at h3
          injection h3 with _ h; exact h.symm
        rw [hq]; simp [h95]
/-! how the words follow one another -/
def Cuts (s : List UInt8) (a : Nat) (ws : List W) (b : Nat) (vs : List W) : Prop := ∀ f, s.length - a < f → ∃ f', s.length - b < f' ∧ cutF f s a ws = cutF f' s b vs
theorem Cuts.refl (s : List UInt8) (a : Nat) (ws : List W) : Cuts s a ws a ws := fun f h => ⟨f, h, rfl⟩
theorem Cuts.trans {s : List UInt8} {a b c : Nat} {us vs ws : List W} (h : Cuts s a us b vs) (k : Cuts s b vs c ws) : Cuts s a us c ws := by
  intro f hf
  obtain ⟨g, hg, e⟩ := h f hf
  obtain ⟨i, hi, e2⟩ := k g hg
  exact ⟨i, hi, e.trans e2⟩
theorem drop_len {s : List UInt8} {a : Nat} {b : UInt8} {q : List UInt8} (h : s.drop a = b :: q) : s.length = a + (q.length + 1) := by
  have := congrArg List.length h
  simp only [List.length_drop, List.length_cons] at this
  omega
theorem cuts_blank {s : List UInt8} {a : Nat} {q : List UInt8} (h : s.drop a = 32 :: q) (ws : List W) : Cuts s a ws (a + 1) ws := by
  intro f hf
  obtain ⟨g, rfl⟩ : ∃ g, f = g + 1 := ⟨f - 1, by omega⟩
  have := drop_len h
  exact ⟨g, by omega, by simp [cutF, h]⟩
theorem cuts_word {s : List UInt8} {a c : Nat} {b : UInt8} {q : List UInt8} {ws vs : List W} (h : s.drop a = b :: q) (h1 : b ≠ 32) (h2 : starts [78, 66, 46] (b :: q) = false)
    (hw : word (b :: q) a ws = .ok (c, vs)) (hc : a < c) : Cuts s a ws c vs := by
  intro f hf
  obtain ⟨g, rfl⟩ : ∃ g, f = g + 1 := ⟨f - 1, by omega⟩
  have := drop_len h
  exact ⟨g, by omega, by simp [cutF, h, h1, h2, hw, R.andThen]⟩
/-- does the last word hold numbers? -/
def lastN (ws : List W) : Bool := match ws.getLast? with | some w => w.kind == 1 | none => false
theorem word_number {p r : List UInt8} {a : Nat} {ws : List W} (h : NumT p) (hr : headIs noTail r = false) :
    word (p ++ r) a ws = .ok (a + p.length, if lastN ws then (match ws.getLast? with | some w => ws.dropLast ++ [{ w with text := w.text ++ 32 :: p }] | none => ws) else ws ++ [⟨1, p, a⟩]) := by
  obtain ⟨e1, e2, e3, e4, e5, e6, e7⟩ := numText h hr
  obtain ⟨b, q, rfl⟩ : ∃ b q, p = b :: q := by cases p with | nil => exact absurd rfl e5 | cons b q => exact ⟨b, q, rfl⟩
  simp only [headIs, Bool.or_eq_true, beq_iff_eq] at e7
  have h41 : b ≠ 41 := by
    rintro rfl
    rcases e7 with e7 | e7
    · exact absurd e7 (by decide)
    · exact absurd e7 (by decide)
  have hn : word (b :: q ++ r) a ws = number (b :: q ++ r) a ws := by
    show word (b :: (q ++ r)) a ws = _
    simp only [word, h41, false_and, if_false]
    rw [if_pos e7]; rfl
  rw [hn]
  unfold number
  rw [e1, e2, e3, e4]
  unfold lastN
  cases hq : ws.getLast? with
  | none => rw [List.getLast?_eq_none_iff] at hq; subst hq; simp
  | some w => by_cases hk : w.kind = 1 <;> simp [hk]
theorem numHead {p r : List UInt8} (h : NumT p) (hr : headIs noTail r = false) : ∃ b q, p = b :: q ∧ b ≠ 32 ∧ starts [78, 66, 46] (b :: (q ++ r)) = false := by
  obtain ⟨e1, e2, e3, e4, e5, e6, e7⟩ := numText h hr
  obtain ⟨b, q, rfl⟩ : ∃ b q, p = b :: q := by cases p with | nil => exact absurd rfl e5 | cons b q => exact ⟨b, q, rfl⟩
  refine ⟨b, q, rfl, e6 b (by simp), ?_⟩
  have : b ≠ 78 := by
    rintro rfl
    simp [headIs, digit] at e7
  simp [starts, this]
theorem cuts_first {p r s : List UInt8} {a : Nat} {ws : List W} (hs : s.drop a = p ++ r) (h : NumT p) (hr : headIs noTail r = false) (hl : lastN ws = false) : Cuts s a ws (a + p.length) (ws ++ [⟨1, p, a⟩]) := by
  obtain ⟨b, q, rfl, h1, h2⟩ := numHead h hr
  have hw := word_number (a := a) (ws := ws) h hr
  rw [hl] at hw
  exact cuts_word hs h1 h2 hw (by simp)
theorem cuts_next {p q r s : List UInt8} {a a0 : Nat} {ws : List W} (hs : s.drop a = p ++ r) (h : NumT p) (hr : headIs noTail r = false) : Cuts s a (ws ++ [⟨1, q, a0⟩]) (a + p.length) (ws ++ [⟨1, q ++ 32 :: p, a0⟩]) := by
  obtain ⟨b, q', rfl, h1, h2⟩ := numHead h hr
  have hw := word_number (a := a) (ws := ws ++ [⟨1, q, a0⟩]) h hr
  have hl : lastN (ws ++ [⟨1, q, a0⟩]) = true := by simp [lastN]
  rw [hl] at hw
  simp only [if_true, List.getLast?_append, List.getLast?_singleton, Option.or, List.dropLast_concat] at hw
  exact cuts_word hs h1 h2 hw (by simp)
theorem numT_one (rank : Bool) {n : Int} (h : inRange n = true) : NumT (one rank n) := by
  unfold one
  split
  · exact .inl rfl
  · exact .inr ⟨n, h, rfl⟩
theorem more_head (rank : Bool) (l : List Int) {r : List UInt8} (hr : headIs noTail r = false) : headIs noTail (more rank l ++ r) = false := by
  cases l with
  | nil => exact hr
  | cons n l => rfl
theorem drop_more {s p r : List UInt8} {a : Nat} (h : s.drop a = p ++ r) : s.drop (a + p.length) = r := by
  rw [← List.drop_drop, h]; simp
theorem cuts_more (rank : Bool) : ∀ (l : List Int) {s r q : List UInt8} {a a0 : Nat} {ws : List W}, (∀ n ∈ l, inRange n = true) → s.drop a = more rank l ++ r → headIs noTail r = false →
    Cuts s a (ws ++ [⟨1, q, a0⟩]) (a + (more rank l).length) (ws ++ [⟨1, q ++ more rank l, a0⟩])
  | [], s, r, q, a, a0, ws, _, _, _ => by simpa [more] using Cuts.refl s a (ws ++ [⟨1, q, a0⟩])
  | n :: l, s, r, q, a, a0, ws, hl, hs, hr => by
    simp only [more, List.cons_append, List.append_assoc] at hs
    have h1 := cuts_blank hs (ws ++ [⟨1, q, a0⟩])
    have hs1 : s.drop (a + 1) = one rank n ++ (more rank l ++ r) := by
      have := drop_more (p := [32]) (r := one rank n ++ (more rank l ++ r)) hs
      simpa using this
    have h2 := cuts_next (q := q) (a0 := a0) (ws := ws) hs1 (numT_one rank (hl n (by simp))) (more_head rank l hr)
    have hs2 := drop_more hs1
    have h3 := cuts_more rank l (q := q ++ 32 :: one rank n) (a0 := a0) (ws := ws) (fun m hm => hl m (by simp [hm])) hs2 hr
    have h := (h1.trans h2).trans h3
    have e1 : a + 1 + (one rank n).length + (more rank l).length = a + (more rank (n :: l)).length := by simp [more]; omega
    have e2 : q ++ 32 :: one rank n ++ more rank l = q ++ more rank (n :: l) := by simp [more]
    rw [e1, e2] at h
    exact h
theorem cuts_nums (rank : Bool) {l : List Int} (hne : l ≠ []) {s r : List UInt8} {a : Nat} {ws : List W} (hl : ∀ n ∈ l, inRange n = true) (hs : s.drop a = nums rank l ++ r) (hr : headIs noTail r = false) (hw : lastN ws = false) :
    Cuts s a ws (a + (nums rank l).length) (ws ++ [⟨1, nums rank l, a⟩]) := by
  cases l with
  | nil => exact absurd rfl hne
  | cons n l =>
    simp only [nums, List.append_assoc] at hs
    have h1 := cuts_first hs (numT_one rank (hl n (by simp))) (more_head rank l hr) hw
    have h2 := cuts_more rank l (q := one rank n) (a0 := a) (ws := ws) (fun m hm => hl m (by simp [hm])) (drop_more hs) hr
    have h := h1.trans h2
    have e1 : a + (one rank n).length + (more rank l).length = a + (nums rank (n :: l)).length := by simp [nums]; omega
    rw [e1] at h
    exact h
/-! what may stand behind -/
def stopB (c : UInt8) : Bool := [32, 41, 47, 92, 126, 64, 38, 94, 34, 96, 59].contains c
def Stop (r : List UInt8) : Prop := ∀ c q, r = c :: q → stopB c = true
def Went (r : List UInt8) : Prop := ∀ c q, r = c :: q → c ≠ 46 ∧ c ≠ 58
theorem stop_byte {c : UInt8} (h : stopB c = true) : noTail c = false ∧ alnum c = false ∧ c ≠ 46 ∧ c ≠ 58 ∧ c ≠ 123 ∧ c ≠ 66 ∧ letter c = false := by
  simp only [stopB, List.contains_cons, List.contains_nil, Bool.or_false, Bool.or_eq_true, beq_iff_eq] at h
  rcases h with rfl | rfl | rfl | rfl | rfl | rfl | rfl | rfl | rfl | rfl | rfl <;> decide
theorem Stop.went {r : List UInt8} (h : Stop r) : Went r := fun c q e => ⟨(stop_byte (h c q e)).2.2.1, (stop_byte (h c q e)).2.2.2.1⟩
theorem Stop.nil : Stop [] := fun c q e => by cases e
theorem Stop.cons {c : UInt8} (q : List UInt8) (h : stopB c = true) : Stop (c :: q) := fun d p e => by cases e; exact h
theorem Went.nil : Went [] := fun c q e => by cases e
theorem Went.cons {c : UInt8} (q : List UInt8) (h : c ≠ 46 ∧ c ≠ 58) : Went (c :: q) := fun d p e => by cases e; exact h
theorem Stop.tail {r : List UInt8} (h : Stop r) : headIs noTail r = false := by
  cases r with
  | nil => rfl
  | cons c q => exact (stop_byte (h c q rfl)).1
theorem Stop.alnum {r : List UInt8} (h : Stop r) : headIs alnum r = false := by
  cases r with
  | nil => rfl
  | cons c q => exact (stop_byte (h c q rfl)).2.1
end Pp
end Go.Proofs.YtboondbognbnnaaGreatDoor

namespace Go.Proofs.YtboondbognbnnaaGreatDoor
namespace Pp
open Pz
theorem Went.span {r : List UInt8} (h : Went r) : Pz.span (fun c => c == 46 || c == 58) r = 0 := by
  cases r with
  | nil => rfl
  | cons c q => have := h c q rfl; simp [Pz.span, this.1, this.2]
theorem inner_alnum (c : UInt8) : T.inner c = alnum c := by
  simp only [T.inner, alnum, small, capital, digit]
  have e : ∀ k : Nat, ((k : Int) ≤ (c.toNat : Int)) = (k ≤ c.toNat) := fun k => by simp
  have e2 : ∀ k : Nat, ((c.toNat : Int) ≤ (k : Int)) = (c.toNat ≤ k) := fun k => by simp
  have := e 97; have := e 65; have := e 48; have := e2 122; have := e2 90; have := e2 57
  simp_all
theorem word_name {c : UInt8} {q r : List UInt8} (hc : letter c = true) (hq : ∀ x ∈ q, alnum x = true) (hl : (c :: q).length ≤ 32) (hr : Stop r) (a : Nat) (ws : List W) :
    word (c :: q ++ r) a ws = .ok (a + (c :: q).length, ws ++ [⟨if small c then 2 else 3, c :: q, a⟩]) := by
  have hca : alnum c = true := by
    simp only [letter, Bool.or_eq_true] at hc
    simp only [alnum, Bool.or_eq_true]
    exact .inl hc
  have h41 : c ≠ 41 := by rintro rfl; simp [letter, small, capital] at hc
  have h95 : ¬(c = 95 ∨ digit c = true) := by
    rintro (rfl | h)
    · simp [letter, small, capital] at hc
    · simp only [letter, small, capital, digit, Bool.or_eq_true, Bool.and_eq_true, decide_eq_true_eq] at hc h
      omega
  have hs := span_app alnum (c :: q) r (by intro x hx; rcases List.mem_cons.1 hx with rfl | hx; exact hca; exact hq x hx) hr.alnum
  have hn : word (c :: q ++ r) a ws = name c (c :: q ++ r) a ws := by
    show word (c :: (q ++ r)) a ws = _
    simp only [word, h41, false_and, if_false]
    rw [if_neg h95, if_pos hc]; rfl
  rw [hn]
  unfold name
  dsimp only
  rw [hs, head_drop]
  have h46 : r.head? ≠ some 46 := by
    cases r with
    | nil => simp
    | cons d p => have := (stop_byte (hr d p rfl)).2.2.1; simpa using this
  have h32 : ¬ 32 < (c :: q).length := by omega
  simp only [if_neg h46, if_neg h32]
  congr 3
  simp
theorem named_parts {s : List UInt8} {lo hi : Int} (h : T.named s lo hi = true) : ∃ c q, s = c :: q ∧ (c :: q).length ≤ 32 ∧ lo ≤ (c.toNat : Int) ∧ (c.toNat : Int) ≤ hi ∧ ∀ x ∈ q, alnum x = true := by
  unfold T.named at h
  split at h
  · cases h
  · rename_i c q
    simp only [Bool.and_eq_true, decide_eq_true_eq, List.all_eq_true] at h
    exact ⟨c, q, rfl, h.1.1.1, h.1.1.2, h.1.2, fun x hx => by rw [← inner_alnum]; exact h.2 x hx⟩
theorem nb_name {c : UInt8} {q r : List UInt8} (hq : ∀ x ∈ q, alnum x = true) (hr : Stop r) : starts [78, 66, 46] (c :: q ++ r) = false := by
  have hs : ∀ d p, r = d :: p → d ≠ 66 ∧ d ≠ 46 := fun d p e => ⟨(stop_byte (hr d p e)).2.2.2.2.2.1, (stop_byte (hr d p e)).2.2.1⟩
  have h46 : ∀ x ∈ q, x ≠ 46 := by rintro x hx rfl; have := hq 46 hx; simp [alnum, small, capital, digit] at this
  match q with
  | [] =>
    match r with
    | [] => simp [starts]
    | [d] => simp [starts]
    | d :: e :: p => simp [starts, (hs d _ rfl).1]
  | [x] =>
    match r with
    | [] => simp [starts]
    | d :: p => simp [starts, (hs d _ rfl).2]
  | x :: y :: q => simp [starts, h46 y (by simp)]
theorem cuts_name {s p r : List UInt8} {lo hi : Int} {k : Int} {a : Nat} {ws : List W} (hs : s.drop a = p ++ r) (h : T.named p lo hi = true) (hk : (lo = 97 ∧ hi = 122 ∧ k = 2) ∨ (lo = 65 ∧ hi = 90 ∧ k = 3)) (hr : Stop r) :
    Cuts s a ws (a + p.length) (ws ++ [⟨k, p, a⟩]) := by
  obtain ⟨c, q, rfl, hl, h1, h2, hq⟩ := named_parts h
  have hc : letter c = true ∧ (if small c then 2 else 3 : Int) = k := by
    rcases hk with ⟨rfl, rfl, rfl⟩ | ⟨rfl, rfl, rfl⟩
    · have : small c = true := by simp only [small, Bool.and_eq_true, decide_eq_true_eq]; omega
      simp [letter, this]
    · have h3 : small c = false := by simp only [small, Bool.and_eq_false_iff, decide_eq_false_iff_not]; omega
      have h4 : capital c = true := by simp only [capital, Bool.and_eq_true, decide_eq_true_eq]; omega
      simp [letter, h3, h4]
  have hw := word_name hc.1 hq hl hr a ws
  rw [hc.2] at hw
  have h32 : c ≠ 32 := by rintro rfl; simp [letter, small, capital] at hc
  exact cuts_word hs h32 (nb_name hq hr) hw (by simp)
/-- the signs and control words, with their kinds -/
def signs : List (Int × List UInt8) :=
  [(5, [47]), (5, [92]), (5, [92, 46]), (5, [126]),
   (6, [64]), (6, [64, 58]), (6, [64, 46]), (6, [38]), (6, [38, 58]), (6, [38, 46]), (6, [38, 46, 58]), (6, [46, 46]), (6, [58, 58]), (6, [58, 46]), (6, [58]), (6, [94, 58]), (6, [34]), (6, [96]),
   (7, [40]), (7, [59]), (7, [61, 46]), (7, [61, 58]), (7, [91, 58]), (7, [123, 123, 41, 109]), (7, [123, 123, 41, 100]), (7, [125, 125]),
   (7, [105, 102, 46]), (7, [100, 111, 46]), (7, [101, 108, 115, 101, 46]), (7, [101, 110, 100, 46]), (7, [119, 104, 105, 108, 101, 46]), (7, [112, 105, 99, 107, 46]), (7, [111, 114, 46])]
set_option maxRecDepth 10000 in
set_option maxHeartbeats 4000000 in
theorem cuts_sign {s p r : List UInt8} {k : Int} {a : Nat} {ws : List W} (hs : s.drop a = p ++ r) (h : (k, p) ∈ signs) (hr : Went r) : Cuts s a ws (a + p.length) (ws ++ [⟨k, p, a⟩]) := by
  have hsp := hr.span
  simp only [signs, List.mem_cons, Prod.mk.injEq, List.not_mem_nil, or_false] at h
  rcases h with ⟨rfl, rfl⟩ | ⟨rfl, rfl⟩ | ⟨rfl, rfl⟩ | ⟨rfl, rfl⟩ | ⟨rfl, rfl⟩ | ⟨rfl, rfl⟩ | ⟨rfl, rfl⟩ | ⟨rfl, rfl⟩ | ⟨rfl, rfl⟩ | ⟨rfl, rfl⟩ | ⟨rfl, rfl⟩ | ⟨rfl, rfl⟩ | ⟨rfl, rfl⟩ | ⟨rfl, rfl⟩ | ⟨rfl, rfl⟩ | ⟨rfl, rfl⟩ | ⟨rfl, rfl⟩ | ⟨rfl, rfl⟩ | ⟨rfl, rfl⟩ | ⟨rfl, rfl⟩ | ⟨rfl, rfl⟩ | ⟨rfl, rfl⟩ | ⟨rfl, rfl⟩ | ⟨rfl, rfl⟩ | ⟨rfl, rfl⟩ | ⟨rfl, rfl⟩ | ⟨rfl, rfl⟩ | ⟨rfl, rfl⟩ | ⟨rfl, rfl⟩ | ⟨rfl, rfl⟩ | ⟨rfl, rfl⟩ | ⟨rfl, rfl⟩ | ⟨rfl, rfl⟩ <;>
    (refine cuts_word hs (by decide) (by simp [starts]) ?_ (by simp) <;>
     simp [word, letter, small, capital, digit, Pz.mark, name, starts, markLen, Pz.span, alnum, kindText, T.isPrim, T.spells, kindOf, keywords, hsp])
theorem cuts_close {s r : List UInt8} {a : Nat} {ws : List W} (hs : s.drop a = [41] ++ r) (hr : Stop r) : Cuts s a ws (a + 1) (ws ++ [⟨7, [41], a⟩]) := by
  refine cuts_word hs (by decide) (by simp [starts]) ?_ (by simp)
  have hl : headIs letter r = false := by
    cases r with
    | nil => rfl
    | cons c q => exact (stop_byte (hr c q rfl)).2.2.2.2.2.2
  simp [word, hl, letter, small, capital, digit, Pz.mark, starts]
set_option maxRecDepth 10000 in
set_option maxHeartbeats 4000000 in
theorem cuts_prim {s p r : List UInt8} {a : Nat} {ws : List W} (hs : s.drop a = p ++ r) (h : T.isPrim p = true) (hr : Stop r) : Cuts s a ws (a + p.length) (ws ++ [⟨4, p, a⟩]) := by
  have hsp := hr.went.span
  have h123 : List.take 1 r ≠ [123] ∧ List.take 3 r ≠ [123, 41, 109] ∧ List.take 3 r ≠ [123, 41, 100] := by
    cases r with
    | nil => simp
    | cons c q => have := (stop_byte (hr c q rfl)).2.2.2.2.1; simp [this]
  simp only [T.isPrim, T.spells, List.contains_eq_mem, List.mem_cons, List.not_mem_nil, or_false, decide_eq_true_eq] at h
  rcases h with rfl | rfl | rfl | rfl | rfl | rfl | rfl | rfl | rfl | rfl | rfl | rfl | rfl | rfl | rfl | rfl | rfl | rfl | rfl | rfl | rfl | rfl | rfl | rfl | rfl | rfl | rfl | rfl | rfl | rfl | rfl | rfl | rfl | rfl | rfl | rfl | rfl | rfl | rfl | rfl | rfl | rfl | rfl <;>
    (refine cuts_word hs (by decide) (by simp [starts]) ?_ (by simp) <;>
     simp [word, letter, small, capital, digit, Pz.mark, name, starts, markLen, Pz.span, alnum, kindText, T.isPrim, T.spells, kindOf, keywords, hsp, h123])
end Pp
end Go.Proofs.YtboondbognbnnaaGreatDoor

namespace Go.Proofs.YtboondbognbnnaaGreatDoor
namespace Pp
open Pz
/-- does a word stand as it should ahead of what is left? -/
def fit : Pc → List UInt8 → Prop
  | .b, _ => True
  | .w k s, r =>
    (k = 1 ∧ Stop r ∧ ∃ rank l, l ≠ [] ∧ (∀ n ∈ l, inRange n = true) ∧ s = nums rank l) ∨ (k = 2 ∧ Stop r ∧ T.named s 97 122 = true) ∨ (k = 3 ∧ Stop r ∧ T.named s 65 90 = true) ∨
    (k = 4 ∧ Stop r ∧ T.isPrim s = true) ∨ ((k, s) ∈ signs ∧ Went r) ∨ (k = 7 ∧ s = [41] ∧ Stop r)
/-- pieces ahead of r; p: was the last word a number? -/
def Ok : Bool → List Pc → List UInt8 → Prop
  | _, [], _ => True
  | p, .b :: l, r => Ok p l r
  | p, .w k s :: l, r => fit (.w k s) (rn l ++ r) ∧ (p = true → k ≠ 1) ∧ Ok (k == 1) l r
def lastK : Bool → List Pc → Bool
  | p, [] => p
  | p, .b :: l => lastK p l
  | _, .w k _ :: l => lastK (k == 1) l
theorem lastK_append : ∀ (a b : List Pc) (p : Bool), lastK p (a ++ b) = lastK (lastK p a) b
  | [], _, _ => rfl
  | .b :: a, b, p => lastK_append a b p
  | .w k _ :: a, b, _ => lastK_append a b (k == 1)
theorem Ok.append : ∀ {a b : List Pc} {r : List UInt8} {p : Bool}, Ok p a (rn b ++ r) → Ok (lastK p a) b r → Ok p (a ++ b) r
  | [], _, _, _, _, h => h
  | .b :: a, b, r, p, h, k => Ok.append (a := a) h k
  | .w _ _ :: a, b, r, p, ⟨h1, h2, h3⟩, k => ⟨by rw [show List.append a b = a ++ b from rfl, rn_append, List.append_assoc]; exact h1, h2, Ok.append (a := a) h3 k⟩
def wordsAt : Nat → List Pc → List W
  | _, [] => []
  | a, .b :: l => wordsAt (a + 1) l
  | a, .w k s :: l => ⟨k, s, a⟩ :: wordsAt (a + s.length) l
theorem lastN_snoc (ws : List W) (w : W) : lastN (ws ++ [w]) = (w.kind == 1) := by simp [lastN]
theorem cuts_list : ∀ (l : List Pc) {s r : List UInt8} {a : Nat} {ws : List W}, s.drop a = rn l ++ r → Ok (lastN ws) l r → Cuts s a ws (a + (rn l).length) (ws ++ wordsAt a l)
  | [], s, r, a, ws, _, _ => by simpa [rn, wordsAt] using Cuts.refl s a ws
  | .b :: l, s, r, a, ws, hs, h => by
    simp only [rn, Pc.bytes, List.append_assoc] at hs
    have h1 := cuts_blank (q := rn l ++ r) hs ws
    have hs2 : s.drop (a + 1) = rn l ++ r := by simpa using drop_more (p := [32]) hs
    have h2 := cuts_list l (ws := ws) hs2 h
    have := h1.trans h2
    have e : a + 1 + (rn l).length = a + (rn (.b :: l)).length := by simp [rn, Pc.bytes]; omega
    rw [e] at this
    exact this
  | .w k p :: l, s, r, a, ws, hs, ⟨hf, hp, h⟩ => by
    simp only [rn, Pc.bytes, List.append_assoc] at hs
    have h1 : Cuts s a ws (a + p.length) (ws ++ [⟨k, p, a⟩]) := by
      rcases hf with ⟨rfl, hr, rank, v, hne, hv, rfl⟩ | ⟨rfl, hr, hn⟩ | ⟨rfl, hr, hn⟩ | ⟨rfl, hr, hn⟩ | ⟨hn, hr⟩ | ⟨rfl, rfl, hr⟩
      · refine cuts_nums rank hne hv hs hr.tail ?_
        cases hl : lastN ws with
        | false => rfl
        | true => exact absurd rfl (hp hl)
      · exact cuts_name hs hn (.inl ⟨rfl, rfl, rfl⟩) hr
      · exact cuts_name hs hn (.inr ⟨rfl, rfl, rfl⟩) hr
      · exact cuts_prim hs hn hr
      · exact cuts_sign hs hn hr
      · exact cuts_close hs hr
    have h2 := cuts_list l (ws := ws ++ [⟨k, p, a⟩]) (drop_more hs) (by rw [lastN_snoc]; exact h)
    have := h1.trans h2
    have e : a + p.length + (rn l).length = a + (rn (.w k p :: l)).length := by simp [rn, Pc.bytes]; omega
    rw [e, List.append_assoc] at this
    exact this
theorem Cuts.ends {s : List UInt8} {ws : List W} (h : Cuts s 0 [] s.length ws) (hl : s.length ≤ 1048576) : cut s = .ok ws := by
  unfold cut
  rw [if_neg (by omega)]
  obtain ⟨f, hf, e⟩ := h (s.length + 1) (by omega)
  obtain ⟨g, rfl⟩ : ∃ g, f = g + 1 := ⟨f - 1, by omega⟩
  rw [e]; simp [cutF]
theorem cut_rn {l : List Pc} (h : Ok false l []) (hl : (rn l).length ≤ 1048576) : cut (rn l) = .ok (wordsAt 0 l) := by
  have := cuts_list l (s := rn l) (r := []) (a := 0) (ws := []) (by simp) h
  simp only [Nat.zero_add, List.nil_append] at this
  exact this.ends hl

/-- an empty text -/
abbrev E : ByteArray := ⟨#[]⟩
/-- terms that may be, by what they are made of: 0 verbs, 1 nouns, 2 sentences, 3 bodies -/
inductive G : Nat → T → Prop
  | num (sh a : List Int) (h : T.literal sh a = true) (hr : ∀ n ∈ a, inRange n = true) : G 1 (.mk 1 E 0 sh a [])
  | nam (s : ByteArray) (h : T.named s.data.toList 97 122 = true) : G 1 (.mk 2 s 0 [] [] [])
  | mon (v x : T) : G 0 v → G 1 x → G 1 (made 3 [v, x])
  | dy (v x y : T) : G 0 v → G 1 x → G 1 y → G 1 (made 4 [v, x, y])
  | pick (x : T) (l : List T) : G 1 x → (∀ y ∈ l, G 1 y) → l ≠ [] → G 1 (made 5 (x :: l))
  | say (x : T) : G 1 x → G 2 (made 10 [x])
  | set (s : ByteArray) (x : T) : T.named s.data.toList 97 122 = true → G 1 x → G 2 (.mk 11 s 0 [] [] [x])
  | cond (x b c : T) : G 1 x → G 3 b → G 3 c → G 2 (made 12 [x, b, c])
  | loop (x b : T) : G 1 x → G 3 b → G 2 (made 13 [x, b])
  | body (l : List T) : (∀ x ∈ l, G 2 x) → G 3 (made 14 l)
  | prim (s : ByteArray) (h : T.isPrim s.data.toList = true) : G 0 (.mk 20 s 0 [] [] [])
  | name (s : ByteArray) (h : T.named s.data.toList 65 90 = true) : G 0 (.mk 21 s 0 [] [] [])
  | const (x : T) : G 1 x → x.kind = 1 ∨ x.kind = 2 → G 0 (made 22 [x])
  | defn (n : Int) (b : T) : n = 1 ∨ n = 2 → G 3 b → G 0 (.mk 23 E n [] [] [b])
  | adv (k : Int) (u : T) : k = 24 ∨ k = 25 ∨ k = 26 ∨ k = 27 → G 0 u → G 0 (made k [u])
  | conj (k : Int) (u v : T) : 28 ≤ k ∧ k ≤ 38 → G 0 u → G 0 v → G 0 (made k [u, v])
  | bondL (x v : T) : G 1 x → x.kind = 1 ∨ x.kind = 2 → G 0 v → G 0 (made 39 [x, v])
  | bondR (k : Int) (u x : T) : k = 40 ∨ k = 41 → G 0 u → G 1 x → x.kind = 1 ∨ x.kind = 2 → G 0 (made k [u, x])
  | rank (a : List Int) (u : T) : a ≠ [] → (∀ n ∈ a, inRange n = true) → G 0 u → G 0 (.mk 42 E 0 [(a.length : Int)] a [u])
  | agenda (u v : T) (l : List T) : G 0 u → G 0 v → (∀ x ∈ l, G 0 x) → G 0 (made 43 (u :: v :: l))
  | hook (k : Int) (u v : T) : k = 44 ∨ k = 46 → G 0 u → G 0 v → G 0 (made k [u, v])
  | fork (u v z : T) : G 0 u → G 0 v → G 0 z → G 0 (made 45 [u, v, z])
end Pp
end Go.Proofs.YtboondbognbnnaaGreatDoor

namespace Go.Proofs.YtboondbognbnnaaGreatDoor
namespace Pp
open Pz
abbrev cl (v : T) : List Pc := brk (!whole v.kind) (phrase v)
theorem closedAt_eq : ∀ (l : List T) (i : Nat), closedAt l i = match l[i]? with | some v => cl v | none => []
  | [], _ => by simp [closedAt]
  | t :: l, 0 => by simp [closedAt]
  | t :: l, i + 1 => by simpa [closedAt] using closedAt_eq l i
theorem phraseAt_eq : ∀ (l : List T) (i : Nat), phraseAt l i = match l[i]? with | some v => phrase v | none => []
  | [], _ => by simp [phraseAt]
  | t :: l, 0 => by simp [phraseAt]
  | t :: l, i + 1 => by simpa [phraseAt] using phraseAt_eq l i
theorem nounAt_eq : ∀ (l : List T) (i : Nat), nounAt l i = match l[i]? with | some v => noun v | none => []
  | [], _ => by simp [nounAt]
  | t :: l, 0 => by simp [nounAt]
  | t :: l, i + 1 => by simpa [nounAt] using nounAt_eq l i
theorem bodyAt_eq : ∀ (l : List T) (i : Nat), bodyAt l i = match l[i]? with | some v => body v | none => []
  | [], _ => by simp [bodyAt]
  | t :: l, 0 => by simp [bodyAt]
  | t :: l, i + 1 => by simpa [bodyAt] using bodyAt_eq l i
theorem beginsAt_eq : ∀ (l : List T) (i : Nat), beginsAt l i = match l[i]? with | some v => begins v | none => false
  | [], _ => by simp [beginsAt]
  | t :: l, 0 => by simp [beginsAt]
  | t :: l, i + 1 => by simpa [beginsAt] using beginsAt_eq l i
theorem firstAt_eq : ∀ (l : List T) (i : Nat), firstAt l i = match l[i]? with | some v => first v | none => false
  | [], _ => by simp [firstAt]
  | t :: l, 0 => by simp [firstAt]
  | t :: l, i + 1 => by simpa [firstAt] using firstAt_eq l i
theorem p_prim (s : ByteArray) : phrase (.mk 20 s 0 [] [] []) = [.w 4 (txt s)] := by simp [phrase]
theorem p_name (s : ByteArray) : phrase (.mk 21 s 0 [] [] []) = [.w 3 (txt s)] := by simp [phrase]
theorem p_const (x : T) : phrase (made 22 [x]) = noun x ++ [.w 6 [34], .w 1 [95]] := by simp [phrase, made, nounAt]
theorem p_defn (n : Int) (b : T) : phrase (.mk 23 E n [] [] [b]) = .w 7 (if n = 1 then [123, 123, 41, 109] else [123, 123, 41, 100]) :: .b :: body b ++ [.w 7 [125, 125]] := by simp [phrase, bodyAt]
theorem p_adv {k : Int} (hk : k = 24 ∨ k = 25 ∨ k = 26 ∨ k = 27) (u : T) : phrase (made k [u]) = phrase u ++ mark k := by
  rcases hk with rfl | rfl | rfl | rfl <;> simp [phrase, made, phraseAt]
theorem conj_cases {k : Int} (h : 28 ≤ k ∧ k ≤ 38) : k = 28 ∨ k = 29 ∨ k = 30 ∨ k = 31 ∨ k = 32 ∨ k = 33 ∨ k = 34 ∨ k = 35 ∨ k = 36 ∨ k = 37 ∨ k = 38 := by omega
theorem p_conj {k : Int} (hk : 28 ≤ k ∧ k ≤ 38) (u v : T) : phrase (made k [u, v]) = phrase u ++ mark k ++ cl v := by
  rcases conj_cases hk with rfl | rfl | rfl | rfl | rfl | rfl | rfl | rfl | rfl | rfl | rfl <;> simp [phrase, made, phraseAt, closedAt]
theorem p_bondL (x v : T) : phrase (made 39 [x, v]) = noun x ++ .w 6 [38] :: cl v := by simp [phrase, made, nounAt, closedAt]
theorem p_bondR {k : Int} (hk : k = 40 ∨ k = 41) (u x : T) : phrase (made k [u, x]) = phrase u ++ mark k ++ noun x := by
  rcases hk with rfl | rfl <;> simp [phrase, made, nounAt, phraseAt]
theorem p_rank (a : List Int) (u : T) : phrase (.mk 42 E 0 [(a.length : Int)] a [u]) = phrase u ++ [.w 6 [34], .w 1 (nums true a)] := by simp [phrase, phraseAt]
theorem p_agenda1 (u v : T) : phrase (made 43 [u, v]) = phrase v ++ .w 6 [64, 46] :: cl u := by simp [phrase, made, phraseAt, closedAt]
theorem p_agenda (u v z : T) (l : List T) : phrase (made 43 (u :: v :: z :: l)) = .w 7 [40] :: ties (v :: z :: l) ++ [.w 7 [41]] ++ .w 6 [64, 46] :: cl u := by simp [phrase, made, closedAt, tiesTail]
/-- a verb behind another in a train -/
abbrev nx (u v : T) : List Pc := .b :: brk (begins v && ends u) (phrase v)
theorem p_hook (u v : T) : phrase (made 44 [u, v]) = .w 7 [40] :: (phrase u ++ nx u v) ++ [.w 7 [41]] := by simp [phrase, made, train]
theorem p_cap (u v : T) : phrase (made 46 [u, v]) = .w 7 [40] :: .w 7 [91, 58] :: .b :: (phrase u ++ nx u v) ++ [.w 7 [41]] := by simp [phrase, made, train]
theorem p_fork (u v z : T) : phrase (made 45 [u, v, z]) = .w 7 [40] :: (phrase u ++ nx u v ++ nx v z) ++ [.w 7 [41]] := by simp [phrase, made, train]
theorem n_num (sh a : List Int) : noun (.mk 1 E 0 sh a []) = [.w 1 (nums false a)] := by simp [noun]
theorem n_nam (s : ByteArray) : noun (.mk 2 s 0 [] [] []) = [.w 2 (txt s)] := by simp [noun]
theorem n_mon (v x : T) : noun (made 3 [v, x]) = brk (ends v && first x) (phrase v) ++ .b :: noun x := by simp [noun, made, phraseAt, nounAt, bracketed, endsAt, firstAt_eq]
theorem n_dy (v x y : T) : noun (made 4 [v, x, y]) = brk (x.kind == 3 || x.kind == 4) (noun x) ++ .b :: brk (ends v && first y || begins v && x.kind == 1) (phrase v) ++ .b :: noun y := by
  simp [noun, made, phraseAt, nounAt, bracketed, endsAt, firstAt_eq, beginsAt_eq, kindAt]
theorem n_pick (x : T) (l : List T) : noun (made 5 (x :: l)) = .w 7 [112, 105, 99, 107, 46] :: .b :: noun x ++ .b :: .w 7 [100, 111, 46] :: .b :: ors l ++ [.b, .w 7 [101, 110, 100, 46]] := by simp [noun, made, nounAt, orsTail]
theorem s_say (x : T) : sentence (made 10 [x]) = noun x := by simp [sentence, made, nounAt]
theorem s_set (s : ByteArray) (x : T) : sentence (.mk 11 s 0 [] [] [x]) = .w 2 (txt s) :: .b :: .w 7 [61, 46] :: .b :: noun x := by simp [sentence, nounAt]
theorem s_cond (x b c : T) : sentence (made 12 [x, b, c]) = .w 7 [105, 102, 46] :: .b :: noun x ++ .b :: .w 7 [100, 111, 46] :: .b :: body b ++ .w 7 [101, 108, 115, 101, 46] :: .b :: body c ++ [.w 7 [101, 110, 100, 46]] := by simp [sentence, made, nounAt, bodyAt]
theorem s_loop (x b : T) : sentence (made 13 [x, b]) = .w 7 [119, 104, 105, 108, 101, 46] :: .b :: noun x ++ .b :: .w 7 [100, 111, 46] :: .b :: body b ++ [.w 7 [101, 110, 100, 46]] := by simp [sentence, made, nounAt, bodyAt]
theorem b_body (l : List T) : body (made 14 l) = sents l := by simp [body, made]
/-! do they begin with numbers, or end with one? -/
theorem begins_mk (k n : Int) (s : ByteArray) (sh a : List Int) (l : List T) : begins (.mk k s n sh a l) = if k = 22 ∨ k = 39 then kindAt l 0 == 1 else if whole k then false else if k = 43 then l.length == 2 && beginsAt l 1 else beginsAt l 0 := by simp [begins]
theorem first_mk (k n : Int) (s : ByteArray) (sh a : List Int) (l : List T) : first (.mk k s n sh a l) = if k = 1 then true else if k = 3 then beginsAt l 0 && !(endsAt l 0 && firstAt l 1) else if k = 4 then kindAt l 1 != 3 && kindAt l 1 != 4 && firstAt l 1 else false := by simp [first]
theorem first_mon (v x : T) : first (made 3 [v, x]) = (begins v && !(ends v && first x)) := by simp [first, made, beginsAt_eq, endsAt, firstAt_eq]
theorem first_dy (v x y : T) : first (made 4 [v, x, y]) = (x.kind != 3 && x.kind != 4 && first x) := by simp [first, made, kindAt, firstAt_eq]
end Pp
end Go.Proofs.YtboondbognbnnaaGreatDoor

namespace Go.Proofs.YtboondbognbnnaaGreatDoor
namespace Pp
open Pz
theorem fit_sign {k : Int} {s r : List UInt8} (h : (k, s) ∈ signs) (hr : Went r) : fit (.w k s) r := .inr (.inr (.inr (.inr (.inl ⟨h, hr⟩))))
theorem fit_close {r : List UInt8} (hr : Stop r) : fit (.w 7 [41]) r := .inr (.inr (.inr (.inr (.inr ⟨rfl, rfl, hr⟩))))
theorem ok_sign {k : Int} {s r : List UInt8} {l : List Pc} {p : Bool} (h : (k, s) ∈ signs) (h1 : k = 5 ∨ k = 6 ∨ k = 7) (hw : Went (rn l ++ r)) (ho : Ok false l r) : Ok p (.w k s :: l) r := by
  refine ⟨fit_sign h hw, fun _ => by omega, ?_⟩
  have : (k == 1) = false := by rcases h1 with rfl | rfl | rfl <;> rfl
  rw [this]; exact ho
theorem ok_close {r : List UInt8} {p : Bool} (hr : Stop r) : Ok p [.w 7 [41]] r := ⟨fit_close hr, fun _ => by decide, trivial⟩
theorem went_b (l : List UInt8) : Went (32 :: l) := Went.cons _ (by decide)
theorem stop_b (l : List UInt8) : Stop (32 :: l) := Stop.cons _ (by decide)
theorem stop_close (l : List UInt8) : Stop (41 :: l) := Stop.cons _ (by decide)
theorem brk_ok {so : Bool} {l : List Pc} {p : Bool} {r : List UInt8} {c : Prop} (h : ∀ p r, Stop r → (p = true → c) → Ok p l r) (hw : ∀ q, Went (rn l ++ q)) (hr : Stop r) (hp : so = false → p = true → c) : Ok p (brk so l) r := by
  cases so with
  | false => exact h p r hr (hp rfl)
  | true =>
    show Ok p (.w 7 [40] :: (l ++ [.w 7 [41]])) r
    refine ok_sign (by decide) (by decide) ?_ ?_
    · rw [rn_append, List.append_assoc]; exact hw _
    · exact Ok.append (h false _ (stop_close r) (fun e => by cases e)) (ok_close hr)
theorem brk_last (so : Bool) (l : List Pc) (p : Bool) : lastK p (brk so l) = if so then false else lastK p l := by
  cases so with
  | false => rfl
  | true => simp [brk, lastK, lastK_append]
theorem brk_went {so : Bool} {l : List Pc} (hw : ∀ q, Went (rn l ++ q)) (q : List UInt8) : Went (rn (brk so l) ++ q) := by
  cases so with
  | false => exact hw q
  | true => exact Went.cons _ (by decide)
structure FitV (t : T) : Prop where
  ok : ∀ p r, Stop r → (p = true → begins t = false) → Ok p (phrase t) r
  last : ∀ p, lastK p (phrase t) = ends t
  went : ∀ q, Went (rn (phrase t) ++ q)
structure FitN (t : T) : Prop where
  ok : ∀ p r, Stop r → (p = true → first t = false) → Ok p (noun t) r
  last : t.kind ≠ 3 → t.kind ≠ 4 → ∀ p, lastK p (noun t) = (t.kind == 1)
  went : ∀ q, Went (rn (noun t) ++ q)
structure FitS (t : T) : Prop where
  ok : ∀ r, Stop r → Ok false (sentence t) r
  went : ∀ q, Went (rn (sentence t) ++ q)
structure FitB (t : T) : Prop where
  ok : ∀ r, Ok false (body t) r
  went : ∀ q, Went q → Went (rn (body t) ++ q)
def Fits : Nat → T → Prop
  | 0, t => FitV t
  | 1, t => FitN t
  | 2, t => FitS t
  | _, t => FitB t
theorem whole_plain {v : T} (h : whole v.kind = true) : ends v = false ∧ begins v = false := by
  obtain ⟨k, s, n, sh, a, l⟩ := v
  simp only [T.kind_mk, whole, Bool.or_eq_true, beq_iff_eq] at h
  rw [begins_mk]
  rcases h with ((((rfl | rfl) | rfl) | rfl) | rfl) | rfl <;> simp [ends, whole]
/-- a verb between brackets, if it wants them -/
theorem FitV.cl {v : T} (h : FitV v) : (∀ p r, Stop r → Ok p (cl v) r) ∧ (∀ p, lastK p (cl v) = false) ∧ ∀ q, Went (rn (cl v) ++ q) := by
  refine ⟨fun p r hr => ?_, fun p => ?_, brk_went h.went⟩
  · refine brk_ok h.ok h.went hr (fun e _ => (whole_plain (by simpa using e)).2)
  · rw [brk_last]
    cases hw : whole v.kind with
    | true => simp [h.last, (whole_plain hw).1]
    | false => simp
theorem prim_went {s : List UInt8} (h : T.isPrim s = true) (q : List UInt8) : Went (s ++ q) := by
  simp only [T.isPrim, T.spells, List.contains_eq_mem, List.mem_cons, List.not_mem_nil, or_false, decide_eq_true_eq] at h
  rcases h with rfl | rfl | rfl | rfl | rfl | rfl | rfl | rfl | rfl | rfl | rfl | rfl | rfl | rfl | rfl | rfl | rfl | rfl | rfl | rfl | rfl | rfl | rfl | rfl | rfl | rfl | rfl | rfl | rfl | rfl | rfl | rfl | rfl | rfl | rfl | rfl | rfl | rfl | rfl | rfl | rfl | rfl | rfl <;> exact Went.cons _ (by decide)
theorem named_went {s : List UInt8} {lo hi : Int} (h : T.named s lo hi = true) (h0 : lo = 97 ∨ lo = 65) (q : List UInt8) : Went (s ++ q) := by
  obtain ⟨c, q', rfl, _, h1, _⟩ := named_parts h
  refine Went.cons _ ⟨?_, ?_⟩ <;> rintro rfl
  · have : ((46 : UInt8).toNat : Int) = 46 := rfl
    omega
  · have : ((58 : UInt8).toNat : Int) = 58 := rfl
    omega
theorem nums_went (rank : Bool) {l : List Int} (hne : l ≠ []) (hl : ∀ n ∈ l, inRange n = true) (q : List UInt8) : Went (nums rank l ++ q) := by
  cases l with
  | nil => exact absurd rfl hne
  | cons n l =>
    obtain ⟨e1, e2, e3, e4, e5, e6, e7⟩ := numText (r := []) (numT_one rank (hl n (by simp))) rfl
    simp only [nums, List.append_assoc]
    cases hp : one rank n with
    | nil => exact absurd hp e5
    | cons b t =>
      rw [hp] at e7
      simp only [headIs, Bool.or_eq_true, beq_iff_eq] at e7
      refine Went.cons _ ⟨?_, ?_⟩ <;> rintro rfl <;> revert e7 <;> decide
/-- signs between verbs -/
def IsMark (k : Int) : Prop := (24 ≤ k ∧ k ≤ 38) ∨ k = 40 ∨ k = 41
theorem mark_all {k : Int} (h : IsMark k) : (∀ p r, Went r → Ok p (Pp.mark k) r) ∧ (∀ p, lastK p (Pp.mark k) = false) ∧ (∀ q, Stop (rn (Pp.mark k) ++ q)) := by
  have hk : k = 24 ∨ k = 25 ∨ k = 26 ∨ k = 27 ∨ k = 28 ∨ k = 29 ∨ k = 30 ∨ k = 31 ∨ k = 32 ∨ k = 33 ∨ k = 34 ∨ k = 35 ∨ k = 36 ∨ k = 37 ∨ k = 38 ∨ k = 40 ∨ k = 41 := by
    unfold IsMark at h; omega
  refine ⟨fun p r hr => ?_, fun p => ?_, fun q => ?_⟩
  · rcases hk with rfl | rfl | rfl | rfl | rfl | rfl | rfl | rfl | rfl | rfl | rfl | rfl | rfl | rfl | rfl | rfl | rfl <;>
      first
      | exact ok_sign (l := []) (by decide) (by decide) hr trivial
      | exact ok_sign (p := p) (l := [.b]) (by decide) (by decide) (went_b _) trivial
  · rcases hk with rfl | rfl | rfl | rfl | rfl | rfl | rfl | rfl | rfl | rfl | rfl | rfl | rfl | rfl | rfl | rfl | rfl <;> rfl
  · rcases hk with rfl | rfl | rfl | rfl | rfl | rfl | rfl | rfl | rfl | rfl | rfl | rfl | rfl | rfl | rfl | rfl | rfl <;> exact Stop.cons _ (by decide)
theorem stop_sign {k : Int} {s : List UInt8} {l : List Pc} {r : List UInt8} {c : UInt8} {q : List UInt8} (h : s = c :: q) (hc : stopB c = true) : Stop (rn (.w k s :: l) ++ r) := by
  subst h; exact Stop.cons _ hc
theorem nx_ok {u v : T} (h : FitV v) {p : Bool} {r : List UInt8} (hr : Stop r) (hp : p = true → ends u = true) : Ok p (nx u v) r := by
  show Ok p (brk (begins v && ends u) (phrase v)) r
  refine brk_ok h.ok h.went hr (fun e1 e2 => ?_)
  rw [hp e2] at e1
  simpa using e1
theorem nx_last {u v : T} (h : FitV v) (p : Bool) : lastK p (nx u v) = (if begins v && ends u then false else ends v) := by
  show lastK p (brk (begins v && ends u) (phrase v)) = _
  rw [brk_last, h.last]
end Pp
end Go.Proofs.YtboondbognbnnaaGreatDoor

namespace Go.Proofs.YtboondbognbnnaaGreatDoor
namespace Pp
open Pz
theorem rn2 (a b : List Pc) (r : List UInt8) : rn (a ++ b) ++ r = rn a ++ (rn b ++ r) := by rw [rn_append, List.append_assoc]
theorem rnc (p : Pc) (l : List Pc) (r : List UInt8) : rn (p :: l) ++ r = p.bytes ++ (rn l ++ r) := by simp [rn]
theorem went_sign {k : Int} {s : List UInt8} {l : List Pc} {r : List UInt8} {c : UInt8} {q : List UInt8} (h : s = c :: q) (hc : c ≠ 46 ∧ c ≠ 58) : Went (rn (.w k s :: l) ++ r) := by
  subst h; exact Went.cons _ hc
theorem operand_first {x : T} (hk : x.kind = 1 ∨ x.kind = 2) : first x = (x.kind == 1) := by
  obtain ⟨k, s, n, sh, a, l⟩ := x
  simp only [T.kind_mk] at hk ⊢
  rcases hk with rfl | rfl <;> simp [first_mk]
theorem ors_fit : ∀ (l : List T), l ≠ [] → (∀ y ∈ l, FitN y) → (∀ r, Stop r → Ok false (ors l) r) ∧ ∀ q, Went (rn (ors l) ++ q)
  | [], h, _ => absurd rfl h
  | [t], _, h => by
    have ht := h t (by simp)
    exact ⟨fun r hr => by simpa [ors] using ht.ok false r hr (fun e => by cases e), fun q => by simpa [ors] using ht.went q⟩
  | t :: u :: l, _, h => by
    have ht := h t (by simp)
    obtain ⟨h1, h2⟩ := ors_fit (u :: l) (by simp) (fun y hy => h y (by simp [hy]))
    refine ⟨fun r hr => ?_, fun q => ?_⟩
    · simp only [ors]
      refine Ok.append (ht.ok false _ (stop_b _) (fun e => by cases e)) ?_
      show Ok _ (.w 7 [111, 114, 46] :: .b :: ors (u :: l)) r
      exact ok_sign (by decide) (by decide) (went_b _) (h1 r hr)
    · simp only [ors]
      rw [rn2]; exact ht.went _
theorem sents_fit : ∀ (l : List T), (∀ y ∈ l, FitS y) → (∀ r, Ok false (sents l) r) ∧ ∀ q, Went q → Went (rn (sents l) ++ q)
  | [], _ => ⟨fun r => trivial, fun q hq => by simpa [sents, rn] using hq⟩
  | [t], h => by
    have ht := h t (by simp)
    refine ⟨fun r => ?_, fun q _ => ?_⟩
    · simp only [sents]; exact Ok.append (ht.ok _ (stop_b _)) trivial
    · simp only [sents]; rw [rn2]; exact ht.went _
  | t :: u :: l, h => by
    have ht := h t (by simp)
    obtain ⟨h1, h2⟩ := sents_fit (u :: l) (fun y hy => h y (by simp [hy]))
    refine ⟨fun r => ?_, fun q _ => ?_⟩
    · simp only [sents]
      refine Ok.append (ht.ok _ (stop_sign rfl (by decide))) ?_
      exact ok_sign (by decide) (by decide) (went_b _) (h1 r)
    · simp only [sents]; rw [rn2]; exact ht.went _
theorem ties_fit : ∀ (l : List T), l ≠ [] → (∀ y ∈ l, FitV y) → (∀ r, Stop r → Ok false (ties l) r) ∧ ∀ q, Went (rn (ties l) ++ q)
  | [], h, _ => absurd rfl h
  | [t], _, h => by
    have ht := h t (by simp)
    exact ⟨fun r hr => by simpa [ties] using ht.ok false r hr (fun e => by cases e), fun q => by simpa [ties] using ht.went q⟩
  | t :: u :: l, _, h => by
    have ht := h t (by simp)
    obtain ⟨h1, h2⟩ := ties_fit (u :: l) (by simp) (fun y hy => h y (by simp [hy]))
    refine ⟨fun r hr => ?_, fun q => ?_⟩
    · simp only [ties]
      refine Ok.append (ht.ok false _ (stop_sign rfl (by decide)) (fun e => by cases e)) ?_
      exact ok_sign (by decide) (by decide) (h2 _) (h1 r hr)
    · simp only [ties]
      rw [rn2]; exact ht.went _
/-- a train between brackets -/
theorem train_ok {l : List Pc} {p : Bool} {r : List UInt8} (h : ∀ r, Stop r → Ok false l r) (hw : ∀ q, Went (rn l ++ q)) (hr : Stop r) : Ok p (.w 7 [40] :: l ++ [.w 7 [41]]) r :=
  ok_sign (by decide) (by decide) (by show Went (rn (l ++ _) ++ r); rw [rn2]; exact hw _) (Ok.append (h _ (stop_close r)) (ok_close hr))
theorem lit_ne {sh a : List Int} (h : T.literal sh a = true) : a ≠ [] := by
  rintro rfl
  unfold T.literal at h
  split at h
  · simp at h
  · simp only [Bool.and_eq_true, decide_eq_true_eq, List.length_nil] at h; omega
  · cases h
theorem fits_all {c : Nat} {t : T} (h : G c t) : Fits c t := by
  induction h with
  | num sh a h hr =>
    have hne := lit_ne h
    refine ⟨fun p r h1 h2 => ?_, fun _ _ p => ?_, fun q => ?_⟩
    · rw [n_num]
      refine ⟨.inl ⟨rfl, h1, false, a, hne, hr, rfl⟩, fun e => ?_, trivial⟩
      have := h2 e
      simp [first_mk] at this
    · rw [n_num]; rfl
    · rw [n_num, rnc]; exact nums_went false hne hr _
  | nam s h =>
    refine ⟨fun p r h1 h2 => ?_, fun _ _ p => ?_, fun q => ?_⟩
    · rw [n_nam]; exact ⟨.inr (.inl ⟨rfl, h1, h⟩), fun _ => by decide, trivial⟩
    · rw [n_nam]; rfl
    · rw [n_nam, rnc]; exact named_went h (.inl rfl) _
  | mon v x hv hx iv ix =>
    refine ⟨fun p r h1 h2 => ?_, fun h => absurd rfl h, fun q => ?_⟩
    · rw [n_mon]
      rw [first_mon] at h2
      refine Ok.append ?_ ?_
      · refine brk_ok iv.ok iv.went (stop_b _) (fun e1 e2 => ?_)
        have := h2 e2
        rw [e1] at this
        simpa using this
      · show Ok _ (noun x) r
        rw [brk_last, iv.last]
        refine ix.ok _ r h1 (fun e => ?_)
        cases hb : (ends v && first x) with
        | true => rw [hb] at e; cases e
        | false => rw [hb] at e; simp only [Bool.false_eq_true, if_false] at e; rw [e] at hb; simpa using hb
    · rw [n_mon, rn2]; exact brk_went iv.went _
  | dy v x y hv hx hy iv ix iy =>
    refine ⟨fun p r h1 h2 => ?_, fun _ h => absurd rfl h, fun q => ?_⟩
    · rw [n_dy]
      rw [first_dy] at h2
      refine Ok.append (Ok.append ?_ ?_) ?_
      · refine brk_ok ix.ok ix.went (stop_b _) (fun e1 e2 => ?_)
        have := h2 e2
        simp only [Bool.or_eq_false_iff, beq_eq_false_iff_ne] at e1
        simpa [e1.1, e1.2] using this
      · show Ok _ (brk _ (phrase v)) _
        rw [brk_last]
        refine brk_ok iv.ok iv.went (stop_b _) (fun e1 e2 => ?_)
        cases hb : (x.kind == 3 || x.kind == 4) with
        | true => rw [hb] at e2; cases e2
        | false =>
          rw [hb] at e2
          simp only [Bool.or_eq_false_iff, beq_eq_false_iff_ne] at hb
          rw [if_neg (by decide), ix.last hb.1 hb.2] at e2
          rw [e2] at e1
          simp only [Bool.or_eq_false_iff, Bool.and_true] at e1
          exact e1.2
      · show Ok _ (noun y) r
        rw [lastK_append]
        show Ok (lastK _ (brk _ (phrase v))) _ _
        rw [brk_last, iv.last]
        refine iy.ok _ r h1 (fun e => ?_)
        cases hb : (ends v && first y || begins v && x.kind == 1) with
        | true => rw [hb] at e; cases e
        | false =>
          rw [hb] at e; simp only [Bool.false_eq_true, if_false] at e
          rw [e] at hb
          simp only [Bool.or_eq_false_iff, Bool.true_and] at hb
          exact hb.1
    · rw [n_dy, List.append_assoc, rn2]; exact brk_went ix.went _
  | pick x l hx hl hne ix il =>
    obtain ⟨h1, h2⟩ := ors_fit l hne il
    refine ⟨fun p r hr _ => ?_, fun _ _ p => ?_, fun q => ?_⟩
    · rw [n_pick]
      refine Ok.append (Ok.append ?_ ?_) ?_
      · exact ok_sign (by decide) (by decide) (went_b _) (ix.ok false _ (stop_b _) (fun e => by cases e))
      · exact ok_sign (by decide) (by decide) (went_b _) (h1 _ (stop_b _))
      · exact ok_sign (l := []) (by decide) (by decide) hr.went trivial
    · rw [n_pick, lastK_append]; rfl
    · rw [n_pick]; exact went_sign rfl (by decide)
  | say x hx ix => exact ⟨fun r hr => by rw [s_say]; exact ix.ok false r hr (fun e => by cases e), fun q => by rw [s_say]; exact ix.went q⟩
  | set s x h hx ix =>
    refine ⟨fun r hr => ?_, fun q => ?_⟩
    · rw [s_set]
      refine ⟨.inr (.inl ⟨rfl, stop_b _, h⟩), fun _ => by decide, ?_⟩
      exact ok_sign (by decide) (by decide) (went_b _) (ix.ok false r hr (fun e => by cases e))
    · rw [s_set, rnc]; exact named_went h (.inl rfl) _
  | cond x b d hx hb hd ix ib id =>
    refine ⟨fun r hr => ?_, fun q => ?_⟩
    · rw [s_cond]
      refine Ok.append (Ok.append (Ok.append ?_ ?_) ?_) ?_
      · exact ok_sign (by decide) (by decide) (went_b _) (ix.ok false _ (stop_b _) (fun e => by cases e))
      · exact ok_sign (by decide) (by decide) (went_b _) (ib.ok _)
      · exact ok_sign (by decide) (by decide) (went_b _) (id.ok _)
      · exact ok_sign (l := []) (by decide) (by decide) hr.went trivial
    · rw [s_cond]; exact went_sign rfl (by decide)
  | loop x b hx hb ix ib =>
    refine ⟨fun r hr => ?_, fun q => ?_⟩
    · rw [s_loop]
      refine Ok.append (Ok.append ?_ ?_) ?_
      · exact ok_sign (by decide) (by decide) (went_b _) (ix.ok false _ (stop_b _) (fun e => by cases e))
      · exact ok_sign (by decide) (by decide) (went_b _) (ib.ok _)
      · exact ok_sign (l := []) (by decide) (by decide) hr.went trivial
    · rw [s_loop]; exact went_sign rfl (by decide)
  | body l hl il =>
    obtain ⟨h1, h2⟩ := sents_fit l il
    exact ⟨fun r => by rw [b_body]; exact h1 r, fun q hq => by rw [b_body]; exact h2 q hq⟩
  | prim s h =>
    refine ⟨fun p r h1 h2 => ?_, fun p => ?_, fun q => ?_⟩
    · rw [p_prim]; exact ⟨.inr (.inr (.inr (.inl ⟨rfl, h1, h⟩))), fun _ => by decide, trivial⟩
    · rw [p_prim]; rfl
    · rw [p_prim, rnc]; exact prim_went h _
  | name s h =>
    refine ⟨fun p r h1 h2 => ?_, fun p => ?_, fun q => ?_⟩
    · rw [p_name]; exact ⟨.inr (.inr (.inl ⟨rfl, h1, h⟩)), fun _ => by decide, trivial⟩
    · rw [p_name]; rfl
    · rw [p_name, rnc]; exact named_went h (.inr rfl) _
  | const x hx hk ix =>
    refine ⟨fun p r h1 h2 => ?_, fun p => ?_, fun q => ?_⟩
    · rw [p_const]
      refine Ok.append (ix.ok p _ (stop_sign rfl (by decide)) (fun e => ?_)) ?_
      · have := h2 e
        rw [operand_first hk]
        simpa [made, begins_mk, kindAt] using this
      · refine ok_sign (by decide) (by decide) (went_sign rfl (by decide)) ?_
        exact ⟨.inl ⟨rfl, h1, true, [64], by simp, by decide, rfl⟩, fun e => (by cases e), trivial⟩
    · rw [p_const, lastK_append]; rfl
    · rw [p_const, rn2]; exact ix.went _
  | defn n b hn hb ib =>
    have hs : (7, if n = 1 then [123, 123, 41, 109] else [123, 123, 41, 100]) ∈ signs := by rcases hn with rfl | rfl <;> decide
    have hc : ∃ q, (if n = 1 then [123, 123, 41, 109] else [123, 123, 41, 100] : List UInt8) = 123 :: q := by rcases hn with rfl | rfl <;> exact ⟨_, rfl⟩
    obtain ⟨q0, hq0⟩ := hc
    refine ⟨fun p r h1 h2 => ?_, fun p => ?_, fun q => ?_⟩
    · rw [p_defn]
      refine Ok.append ?_ (ok_sign (l := []) (by decide) (by decide) h1.went trivial)
      exact ok_sign hs (by decide) (went_b _) (ib.ok _)
    · rw [p_defn, lastK_append]; rcases hn with rfl | rfl <;> rfl
    · rw [p_defn]; exact went_sign hq0 (by decide)
  | adv k u hk hu iu =>
    obtain ⟨m1, m2, m3⟩ := mark_all (k := k) (by unfold IsMark; omega)
    refine ⟨fun p r h1 h2 => ?_, fun p => ?_, fun q => ?_⟩
    · rw [p_adv hk]
      refine Ok.append (iu.ok p _ (m3 _) (fun e => ?_)) (m1 _ _ h1.went)
      have := h2 e
      rcases hk with rfl | rfl | rfl | rfl <;> simpa [made, begins_mk, whole, beginsAt_eq] using this
    · rw [p_adv hk, lastK_append, m2]
      rcases hk with rfl | rfl | rfl | rfl <;> simp [made, ends]
    · rw [p_adv hk, rn2]; exact iu.went _
  | conj k u v hk hu hv iu iv =>
    obtain ⟨m1, m2, m3⟩ := mark_all (k := k) (by unfold IsMark; omega)
    obtain ⟨c1, c2, c3⟩ := iv.cl
    refine ⟨fun p r h1 h2 => ?_, fun p => ?_, fun q => ?_⟩
    · rw [p_conj hk]
      refine Ok.append (Ok.append (iu.ok p _ (by rw [← rn2]; rw [rn2]; exact m3 _) (fun e => ?_)) (m1 _ _ (c3 _))) (c1 _ _ h1)
      have := h2 e
      rcases conj_cases hk with rfl | rfl | rfl | rfl | rfl | rfl | rfl | rfl | rfl | rfl | rfl <;> simpa [made, begins_mk, whole, beginsAt_eq] using this
    · rw [p_conj hk, lastK_append, c2]
      rcases conj_cases hk with rfl | rfl | rfl | rfl | rfl | rfl | rfl | rfl | rfl | rfl | rfl <;> simp [made, ends]
    · rw [p_conj hk, List.append_assoc, rn2]; exact iu.went _
  | bondL x v hx hk hv ix iv =>
    obtain ⟨c1, c2, c3⟩ := iv.cl
    refine ⟨fun p r h1 h2 => ?_, fun p => ?_, fun q => ?_⟩
    · rw [p_bondL]
      refine Ok.append (ix.ok p _ (stop_sign rfl (by decide)) (fun e => ?_)) (ok_sign (by decide) (by decide) (c3 _) (c1 _ _ h1))
      have := h2 e
      rw [operand_first hk]
      simpa [made, begins_mk, kindAt] using this
    · rw [p_bondL, lastK_append]
      show lastK _ (cl v) = _
      rw [c2]; simp [made, ends]
    · rw [p_bondL, rn2]; exact ix.went _
  | bondR k u x hk hu hx hkx iu ix =>
    obtain ⟨m1, m2, m3⟩ := mark_all (k := k) (by unfold IsMark; omega)
    refine ⟨fun p r h1 h2 => ?_, fun p => ?_, fun q => ?_⟩
    · rw [p_bondR hk]
      refine Ok.append (Ok.append (iu.ok p _ (m3 _) (fun e => ?_)) (m1 _ _ (ix.went _))) ?_
      · have := h2 e
        rcases hk with rfl | rfl <;> simpa [made, begins_mk, whole, beginsAt_eq] using this
      · rw [lastK_append, m2]; exact ix.ok false r h1 (fun e => by cases e)
    · rw [p_bondR hk, lastK_append, ix.last (by omega) (by omega)]
      rcases hk with rfl | rfl <;> simp [made, ends, kindAt]
    · rw [p_bondR hk, List.append_assoc, rn2]; exact iu.went _
  | rank a u hne ha hu iu =>
    refine ⟨fun p r h1 h2 => ?_, fun p => ?_, fun q => ?_⟩
    · rw [p_rank]
      refine Ok.append (iu.ok p _ (stop_sign rfl (by decide)) (fun e => ?_)) ?_
      · have := h2 e
        simpa [begins_mk, whole, beginsAt_eq] using this
      · refine ok_sign (by decide) (by decide) ?_ ⟨.inl ⟨rfl, h1, true, a, hne, ha, rfl⟩, fun e => (by cases e), trivial⟩
        rw [rnc]; exact nums_went true hne ha _
    · rw [p_rank, lastK_append]; rfl
    · rw [p_rank, rn2]; exact iu.went _
  | agenda u v l hu hv hl iu iv il =>
    obtain ⟨c1, c2, c3⟩ := iu.cl
    cases l with
    | nil =>
      refine ⟨fun p r h1 h2 => ?_, fun p => ?_, fun q => ?_⟩
      · rw [p_agenda1]
        refine Ok.append (iv.ok p _ (stop_sign rfl (by decide)) (fun e => ?_)) (ok_sign (by decide) (by decide) (c3 _) (c1 _ _ h1))
        have := h2 e
        simpa [made, begins_mk, whole, beginsAt_eq] using this
      · rw [p_agenda1, lastK_append]
        show lastK _ (cl u) = _
        rw [c2]; simp [made, ends]
      · rw [p_agenda1, rn2]; exact iv.went _
    | cons z l =>
      obtain ⟨t1, t2⟩ := ties_fit (v :: z :: l) (by simp) (fun y hy => by
        rcases List.mem_cons.1 hy with rfl | hy
        · exact iv
        · exact il y hy)
      refine ⟨fun p r h1 h2 => ?_, fun p => ?_, fun q => ?_⟩
      · rw [p_agenda]
        refine Ok.append (train_ok t1 t2 (stop_sign rfl (by decide))) (ok_sign (by decide) (by decide) (c3 _) (c1 _ _ h1))
      · rw [p_agenda, lastK_append]
        show lastK _ (cl u) = _
        rw [c2]; simp [made, ends]
      · rw [p_agenda, List.cons_append, List.cons_append]; exact went_sign rfl (by decide)
  | hook k u v hk hu hv iu iv =>
    have hq : ∀ q, Went (rn (phrase u ++ nx u v) ++ q) := fun q => by rw [rn2]; exact iu.went _
    have ho : ∀ r, Stop r → Ok false (phrase u ++ nx u v) r := fun r hr => Ok.append (iu.ok false _ (stop_b _) (fun e => by cases e)) (nx_ok iv hr (fun e => by rw [← iu.last]; exact e))
    rcases hk with rfl | rfl
    · refine ⟨fun p r h1 h2 => ?_, fun p => ?_, fun q => ?_⟩
      · rw [p_hook]; exact train_ok ho hq h1
      · rw [p_hook, lastK_append]; simp [lastK, made, ends]
      · rw [p_hook]; exact went_sign rfl (by decide)
    · refine ⟨fun p r h1 h2 => ?_, fun p => ?_, fun q => ?_⟩
      · rw [p_cap]; exact train_ok (l := .w 7 [91, 58] :: .b :: (phrase u ++ nx u v)) (fun r hr => ok_sign (by decide) (by decide) (went_b _) (ho r hr)) (fun q => went_sign rfl (by decide)) h1
      · rw [p_cap, lastK_append]; simp [lastK, made, ends]
      · rw [p_cap]; exact went_sign rfl (by decide)
  | fork u v z hu hv hz iu iv iz =>
    refine ⟨fun p r h1 h2 => ?_, fun p => ?_, fun q => ?_⟩
    · rw [p_fork]
      refine train_ok (fun r hr => ?_) (fun q => by rw [List.append_assoc, rn2]; exact iu.went _) h1
      refine Ok.append (Ok.append (iu.ok false _ (stop_b _) (fun e => by cases e)) (nx_ok iv (stop_b _) (fun e => by rw [← iu.last]; exact e))) (nx_ok iz hr (fun e => ?_))
      rw [lastK_append, nx_last iv] at e
      split at e
      · cases e
      · exact e
    · rw [p_fork, lastK_append]; simp [lastK, made, ends]
    · rw [p_fork]; exact went_sign rfl (by decide)
end Pp
end Go.Proofs.YtboondbognbnnaaGreatDoor
