/- Words and phrases as plain data: what word.Cut and package parse tell, no program in sight. The plain parser's answers: places lie in the text, and the turns given are enough. How a text is cut, and a line read: places lie in the text. What word.Cut lays down, plain: kinds, lengths, the numbers' texts. -/
import Derived.Test.YtboondbognbnnaaGreatDoorQPureA
set_option linter.unusedVariables false
set_option linter.unusedSimpArgs false
namespace Go.Proofs.YtboondbognbnnaaGreatDoor
namespace Pz

/-- an answer, or an error and its place -/
inductive R (α : Type) where
  | ok (a : α)
  | bad (code at_ : Int)
def R.andThen {α β : Type} : R α → (α → R β) → R β
  | .ok a, f => f a
  | .bad c p, _ => .bad c p
/-- a word: its kind, its text, its place -/
structure W where
  kind : Int
  text : List UInt8
  at_ : Nat

def small (c : UInt8) : Bool := decide (97 ≤ c.toNat) && decide (c.toNat ≤ 122)
def capital (c : UInt8) : Bool := decide (65 ≤ c.toNat) && decide (c.toNat ≤ 90)
def digit (c : UInt8) : Bool := decide (48 ≤ c.toNat) && decide (c.toNat ≤ 57)
def alnum (c : UInt8) : Bool := small c || capital c || digit c
def letter (c : UInt8) : Bool := small c || capital c
def span (p : UInt8 → Bool) : List UInt8 → Nat
  | [] => 0
  | c :: r => if p c then span p r + 1 else 0
/-- kinds of what no letters spell -/
def kindOf (s : List UInt8) : Int :=
  if s ∈ ([[47], [92], [92, 46], [126]] : List (List UInt8)) then 5
  else if s ∈ ([[64], [64, 58], [64, 46], [38], [38, 58], [38, 46], [38, 46, 58], [46, 46], [58, 58], [58, 46], [58], [94, 58], [34], [96]] : List (List UInt8)) then 6
  else if s ∈ ([[61, 46], [61, 58], [91, 58]] : List (List UInt8)) then 7
  else 0
/-- the control words -/
def keywords : List (List UInt8) := [[105, 102], [100, 111], [101, 108, 115, 101], [101, 110, 100], [119, 104, 105, 108, 101], [112, 105, 99, 107], [111, 114]]
def value (l : List UInt8) : Nat := l.foldl (fun n c => n * 10 + (c.toNat - 48)) 0
/-- a number's value, by its text -/
def numberOf (s : List UInt8) : Int :=
  match s with
  | 95 :: r => -(value r : Int)
  | r => (value r : Int)
def inRange (n : Int) : Bool := decide (-9223372036854775808 ≤ n) && decide (n ≤ 9223372036854775807)

/-- the word that begins at a place (r: what is left from there): where to go on, and the words -/
def signLen (r : List UInt8) : Nat := if r.head? = some 95 then 1 else 0
def numLen (r : List UInt8) : Nat := signLen r + span digit (r.drop (signLen r))
/-- what stands behind a number's text may not stand there -/
def badTail (r : List UInt8) : Bool := match r[numLen r]? with | some c => alnum c || c == 95 | none => false
/-- a number's text that is none -/
def badText (r : List UInt8) : Bool :=
  r.take (numLen r) != [95] && ((decide (1 < numLen r - signLen r) && (r.drop (signLen r)).head? == some 48) || r.take (numLen r) == [95, 48] || !inRange (numberOf (r.take (numLen r))))
def number (r : List UInt8) (at_ : Nat) (ws : List W) : R (Nat × List W) :=
  if badTail r = true then .bad 30 at_
  else if badText r = true then .bad 30 at_
  else match ws.getLast? with
    | some w => if w.kind = 1 then .ok (at_ + numLen r, ws.dropLast ++ [{ w with text := w.text ++ 32 :: r.take (numLen r) }]) else .ok (at_ + numLen r, ws ++ [⟨1, r.take (numLen r), at_⟩])
    | none => .ok (at_ + numLen r, [⟨1, r.take (numLen r), at_⟩])
def name (b : UInt8) (r : List UInt8) (at_ : Nat) (ws : List W) : R (Nat × List W) :=
  let n := span alnum r
  let text := r.take n
  if r[n]? = some 46 then
    if T.isPrim (text ++ [46]) then .ok (at_ + n + 1, ws ++ [⟨4, text ++ [46], at_⟩])
    else if text ∈ keywords then .ok (at_ + n + 1, ws ++ [⟨7, text ++ [46], at_⟩])
    else .bad 31 at_
  else if 32 < n then .bad 31 at_
  else .ok (at_ + n, ws ++ [⟨if small b then 2 else 3, text, at_⟩])
def starts (p : List UInt8) (r : List UInt8) : Bool := r.take p.length == p
def markLen (r : List UInt8) : Nat := 1 + span (fun c => c == 46 || c == 58) (r.drop 1)
def kindText (text : List UInt8) : Int := if T.isPrim text then 4 else kindOf text
def mark (b : UInt8) (r : List UInt8) (at_ : Nat) (ws : List W) : R (Nat × List W) :=
  if starts [123, 123, 41, 109] r then .ok (at_ + 4, ws ++ [⟨7, [123, 123, 41, 109], at_⟩])
  else if starts [123, 123, 41, 100] r then .ok (at_ + 4, ws ++ [⟨7, [123, 123, 41, 100], at_⟩])
  else if starts [125, 125] r then .ok (at_ + 2, ws ++ [⟨7, [125, 125], at_⟩])
  else if b = 40 ∨ b = 41 ∨ b = 59 then .ok (at_ + 1, ws ++ [⟨7, [b], at_⟩])
  else if b.toNat < 33 ∨ 126 < b.toNat ∨ starts [123, 123] r = true then .bad 31 at_
  else
    if kindText (r.take (markLen r)) = 0 then .bad 31 at_ else .ok (at_ + markLen r, ws ++ [⟨kindText (r.take (markLen r)), r.take (markLen r), at_⟩])
def headIs (p : UInt8 → Bool) : List UInt8 → Bool
  | c :: _ => p c
  | [] => false
def word (r : List UInt8) (at_ : Nat) (ws : List W) : R (Nat × List W) :=
  match r with
  | [] => .ok (at_, ws)
  | b :: q =>
    if b = 41 ∧ at_ = 0 ∧ headIs letter q = true then .ok (1 + span letter q, ws ++ [⟨7, r.take (1 + span letter q), 0⟩])
    else if b = 95 ∨ digit b = true then number r at_ ws
    else if letter b then name b r at_ ws
    else mark b r at_ ws
/-- from a place on (f: as many turns as bytes are left) -/
def cutF : Nat → List UInt8 → Nat → List W → R (List W)
  | 0, _, _, ws => .ok ws
  | f + 1, s, at_, ws =>
    match s.drop at_ with
    | [] => .ok ws
    | b :: q =>
      if b = 32 then cutF f s (at_ + 1) ws
      else if starts [78, 66, 46] (b :: q) then .ok ws
      else (word (b :: q) at_ ws).andThen fun x => cutF f s x.1 x.2
def cut (s : List UInt8) : R (List W) := if 1048576 < s.length then .bad 2 0 else cutF (s.length + 1) s 0 []

/-- a piece of a phrase -/
structure U where
  t : T
  gerund : Option (List T)
  cap : Bool
  at_ : Int
def U.noun (u : U) : Bool := !u.cap && u.gerund.isNone && T.cls u.t.kind == 1
def U.verb (u : U) : Bool := !u.cap && u.gerund.isNone && T.cls u.t.kind == 3
def U.operand (u : U) : Bool := u.noun && (u.t.kind == 1 || u.t.kind == 2)
def made (k : Int) (l : List T) : T := .mk k ⟨#[]⟩ 0 [] [] l
def bytes (l : List UInt8) : ByteArray := ⟨l.toArray⟩

def sentenceL (l : List U) : Nat → T → R T   -- i: how many pieces are left ahead of t
  | 0, t => .ok t
  | i + 1, t =>
    match l[i]? with
    | none => .ok t
    | some u =>
      if u.verb = false then .bad 32 u.at_
      else match i with
        | 0 => .ok (made 3 [u.t, t])
        | j + 1 =>
          match l[j]? with
          | none => .ok t
          | some v => if v.noun then sentenceL l j (made 4 [u.t, v.t, t]) else sentenceL l (j + 1) (made 3 [u.t, t])
def trainL (l : List U) : Nat → T → R T   -- i: pieces left ahead
  | 0, t => .ok t
  | 1, t => match l[0]? with | none => .ok t | some u => if u.cap then .bad 32 u.at_ else .ok (made 44 [u.t, t])
  | i + 2, t =>
    match l[i]?, l[i + 1]? with
    | some u, some v => if v.cap then .bad 32 v.at_ else if u.cap then trainL l i (made 46 [v.t, t]) else trainL l i (made 45 [u.t, v.t, t])
    | _, _ => .ok t

section
variable (ws : List W) (e : Nat)
def place (n : Nat) : Int := match ws[n]? with | some w => w.at_ | none => e
def sees (n : Nat) (s : List UInt8) : Bool := match ws[n]? with | some w => w.kind == 7 && w.text == s | none => false
def tie (n : Nat) : Bool := match ws[n]? with | some w => w.kind == 6 && w.text == [96] | none => false
def begins (n : Nat) : Bool :=
  match ws[n]? with
  | none => false
  | some w => if w.kind ≠ 7 then decide (w.kind ≤ 4) else ([[40], [123, 123, 41, 109], [123, 123, 41, 100], [112, 105, 99, 107, 46], [91, 58]] : List (List UInt8)).contains w.text
def takes (n : Nat) (s : List UInt8) : R Nat := if sees ws n s then .ok (n + 1) else .bad 32 (place ws e n)
def opens (n o : Nat) : R (Nat × Nat) := if 512 < o + 1 then .bad 2 (place ws e n) else .ok (n + 1, o + 1)
def splitBlank : List UInt8 → List (List UInt8)
  | [] => [[]]
  | c :: r => match splitBlank r with
    | [] => [[c]]
    | p :: q => if c = 32 then [] :: p :: q else (c :: p) :: q
/-- a constant out of a word of numbers -/
def constant (w : W) : R T :=
  let l := splitBlank w.text
  if l.contains [95] then .bad 32 w.at_
  else
    let a := l.map numberOf
    .ok (.mk 1 ⟨#[]⟩ 0 (if 1 < a.length then [(a.length : Int)] else []) a [])
def adverb (w : W) (u : U) : R T :=
  if u.verb = false then .bad 32 w.at_
  else .ok (made (if w.text = [47] then 24 else if w.text = [92] then 25 else if w.text = [92, 46] then 26 else 27) [u.t])
def bothOf (s : List UInt8) : Option Int :=
  if s = [64] then some 28 else if s = [64, 58] then some 29 else if s = [38, 58] then some 31 else if s = [38, 46] then some 32 else if s = [38, 46, 58] then some 33
  else if s = [46, 46] then some 34 else if s = [58, 58] then some 35 else if s = [58, 46] then some 36 else if s = [58] then some 37 else none

mutual
/-- f: turns that are left; n: the next word; o: how deep -/
def phrase : Nat → Nat → Nat → R (T × Nat)
  | 0, _, _ => .bad 0 0
  | f + 1, n, o => if begins ws n = false then .bad 32 (place ws e n) else fromU f n o []
def fromU : Nat → Nat → Nat → List U → R (T × Nat)
  | 0, _, _, _ => .bad 0 0
  | f + 1, n, o, l =>
    if begins ws n then (unit f n o).andThen fun x => fromU f x.2 o (l ++ [x.1])
    else match l.getLast? with
      | none => .bad 0 0
      | some u =>
        if u.noun then (sentenceL l (l.length - 1) u.t).andThen fun t => .ok (t, n)
        else if l.any U.noun then .bad 32 (place ws e n)
        else if u.cap then .bad 32 u.at_
        else (trainL l (l.length - 1) u.t).andThen fun t => .ok (t, n)
def unit : Nat → Nat → Nat → R (U × Nat)
  | 0, _, _ => .bad 0 0
  | f + 1, n, o =>
    if sees ws n [91, 58] then .ok (⟨.mk 0 ⟨#[]⟩ 0 [] [] [], none, true, place ws e n⟩, n + 1)
    else (primary f n o).andThen fun x => behindU f (place ws e n) x.2 o x.1
def behindU : Nat → Int → Nat → Nat → U → R (U × Nat)
  | 0, _, _, _, _ => .bad 0 0
  | f + 1, at_, n, o, u =>
    match ws[n]? with
    | none => if u.gerund.isSome then .bad 32 (place ws e n) else .ok (u, n)
    | some w =>
      if w.kind ≠ 5 ∧ (w.kind ≠ 6 ∨ w.text = [96]) then (if u.gerund.isSome then .bad 32 (place ws e n) else .ok (u, n))
      else if u.gerund.isSome ∧ w.text ≠ [64, 46] then .bad 32 w.at_
      else if w.kind = 5 then (adverb w u).andThen fun t => behindU f at_ (n + 1) o ⟨t, none, false, at_⟩
      else (conjunction f w (n + 1) o u).andThen fun x => behindU f at_ x.2 o ⟨x.1, none, false, at_⟩
def conjunction : Nat → W → Nat → Nat → U → R (T × Nat)
  | 0, _, _, _, _ => .bad 0 0
  | f + 1, w, n, o, u =>
    match bothOf w.text with
    | some k => if u.verb = false then .bad 32 w.at_ else (behind f n o).andThen fun x => .ok (made k [u.t, x.1], x.2)
    | none =>
      if w.text = [38] then
        if u.operand then (behind f n o).andThen fun x => .ok (made 39 [u.t, x.1], x.2) else either f w n o u 30 40
      else if w.text = [94, 58] then either f w n o u 38 41
      else if w.text = [34] then
        if u.verb = false ∧ u.operand = false then .bad 32 w.at_
        else match ws[n]? with
          | none => .bad 32 (place ws e n)
          | some v =>
            if v.kind ≠ 1 then .bad 32 (place ws e n)
            else if u.operand then (if v.text ≠ [95] then .bad 32 (place ws e n) else .ok (made 22 [u.t], n + 1))
            else
              let a := (splitBlank v.text).map fun s => if s = [95] then 64 else numberOf s
              .ok (.mk 42 ⟨#[]⟩ 0 [(a.length : Int)] a [u.t], n + 1)
      else
        match u.gerund with
        | some l => (behind f n o).andThen fun x => .ok (made 43 (x.1 :: l), x.2)
        | none => if u.verb = false then .bad 32 w.at_ else (behind f n o).andThen fun x => .ok (made 43 [x.1, u.t], x.2)
def behind : Nat → Nat → Nat → R (T × Nat)
  | 0, _, _ => .bad 0 0
  | f + 1, n, o => (side f n o).andThen fun x => if x.1.verb then .ok (x.1.t, x.2) else .bad 32 x.1.at_
def side : Nat → Nat → Nat → R (U × Nat)
  | 0, _, _ => .bad 0 0
  | f + 1, n, o => if begins ws n = false ∨ sees ws n [91, 58] = true then .bad 32 (place ws e n) else primary f n o
def either : Nat → W → Nat → Nat → U → Int → Int → R (T × Nat)
  | 0, _, _, _, _, _, _ => .bad 0 0
  | f + 1, w, n, o, u, kv, ko =>
    if u.verb = false then .bad 32 w.at_
    else (side f n o).andThen fun x => if x.1.verb then .ok (made kv [u.t, x.1.t], x.2) else if x.1.operand = false then .bad 32 x.1.at_ else .ok (made ko [u.t, x.1.t], x.2)
def primary : Nat → Nat → Nat → R (U × Nat)
  | 0, _, _ => .bad 0 0
  | f + 1, n, o =>
    match ws[n]? with
    | none => .bad 0 0
    | some w =>
      if w.kind = 1 then (constant w).andThen fun t => .ok (⟨t, none, false, w.at_⟩, n + 1)
      else if w.kind = 2 then .ok (⟨.mk 2 (bytes w.text) 0 [] [] [], none, false, w.at_⟩, n + 1)
      else if w.kind = 3 then .ok (⟨.mk 21 (bytes w.text) 0 [] [] [], none, false, w.at_⟩, n + 1)
      else if w.kind = 4 then .ok (⟨.mk 20 (bytes w.text) 0 [] [] [], none, false, w.at_⟩, n + 1)
      else (opens ws e n o).andThen fun x => within f w x.1 x.2
def within : Nat → W → Nat → Nat → R (U × Nat)
  | 0, _, _, _ => .bad 0 0
  | f + 1, w, n, o =>
    if w.text = [40] then bracket f w n o
    else if w.text = [112, 105, 99, 107, 46] then
      (noun f n o).andThen fun x => (takes ws e x.2 [100, 111, 46]).andThen fun m => (noun f m o).andThen fun y => picks f w y.2 o [x.1, y.1]
    else (body f n o).andThen fun x => (takes ws e x.2 [125, 125]).andThen fun m =>
      .ok (⟨.mk 23 ⟨#[]⟩ (if w.text = [123, 123, 41, 100] then 2 else 1) [] [] [x.1], none, false, w.at_⟩, m)
def picks : Nat → W → Nat → Nat → List T → R (U × Nat)
  | 0, _, _, _, _ => .bad 0 0
  | f + 1, w, n, o, l =>
    if sees ws n [111, 114, 46] then (noun f (n + 1) o).andThen fun x => picks f w x.2 o (l ++ [x.1])
    else (takes ws e n [101, 110, 100, 46]).andThen fun m => .ok (⟨made 5 l, none, false, w.at_⟩, m)
def bracket : Nat → W → Nat → Nat → R (U × Nat)
  | 0, _, _, _ => .bad 0 0
  | f + 1, w, n, o =>
    if begins ws n = false then .bad 32 (place ws e n)
    else (unit f n o).andThen fun x =>
      if tie ws x.2 = false then (fromU f x.2 o [x.1]).andThen fun y => (takes ws e y.2 [41]).andThen fun m => .ok (⟨y.1, none, false, w.at_⟩, m)
      else ties f w x.2 o [x.1]
def ties : Nat → W → Nat → Nat → List U → R (U × Nat)
  | 0, _, _, _, _ => .bad 0 0
  | f + 1, w, n, o, l =>
    if tie ws n = false then (takes ws e n [41]).andThen fun m => .ok (⟨.mk 0 ⟨#[]⟩ 0 [] [] [], some (l.map U.t), false, w.at_⟩, m)
    else match l.getLast? with
      | none => .bad 0 0
      | some u =>
        if u.verb = false then .bad 32 u.at_
        else if begins ws (n + 1) = false then .bad 32 (place ws e (n + 1))
        else (unit f (n + 1) o).andThen fun x => if x.1.verb = false then .bad 32 x.1.at_ else ties f w x.2 o (l ++ [x.1])
def noun : Nat → Nat → Nat → R (T × Nat)
  | 0, _, _ => .bad 0 0
  | f + 1, n, o => (phrase f n o).andThen fun x => if T.cls x.1.kind = 1 then .ok x else .bad 5 (place ws e n)
def body : Nat → Nat → Nat → R (T × Nat)
  | 0, _, _ => .bad 0 0
  | f + 1, n, o =>
    if sees ws n [125, 125] || sees ws n [101, 108, 115, 101, 46] || sees ws n [101, 110, 100, 46] then .ok (made 14 [], n)
    else (sentence f n o).andThen fun x => bodies f x.2 o [x.1]
def bodies : Nat → Nat → Nat → List T → R (T × Nat)
  | 0, _, _, _ => .bad 0 0
  | f + 1, n, o, l => if sees ws n [59] then (sentence f (n + 1) o).andThen fun x => bodies f x.2 o (l ++ [x.1]) else .ok (made 14 l, n)
def sentence : Nat → Nat → Nat → R (T × Nat)
  | 0, _, _ => .bad 0 0
  | f + 1, n, o =>
    if sees ws n [105, 102, 46] then
      (opens ws e n o).andThen fun q => (noun f q.1 q.2).andThen fun x => (takes ws e x.2 [100, 111, 46]).andThen fun m => (body f m q.2).andThen fun y =>
        if sees ws y.2 [101, 108, 115, 101, 46] then (body f (y.2 + 1) q.2).andThen fun z => (takes ws e z.2 [101, 110, 100, 46]).andThen fun k => .ok (made 12 [x.1, y.1, z.1], k)
        else (takes ws e y.2 [101, 110, 100, 46]).andThen fun k => .ok (made 12 [x.1, y.1, made 14 []], k)
    else if sees ws n [119, 104, 105, 108, 101, 46] then
      (opens ws e n o).andThen fun q => (noun f q.1 q.2).andThen fun x => (takes ws e x.2 [100, 111, 46]).andThen fun m => (body f m q.2).andThen fun y =>
        (takes ws e y.2 [101, 110, 100, 46]).andThen fun k => .ok (made 13 [x.1, y.1], k)
    else match ws[n]? with
      | some v => if v.kind = 2 ∧ sees ws (n + 1) [61, 46] = true then (noun f (n + 2) o).andThen fun x => .ok (.mk 11 (bytes v.text) 0 [] [] [x.1], x.2)
        else (noun f n o).andThen fun x => .ok (made 10 [x.1], x.2)
      | none => (noun f n o).andThen fun x => .ok (made 10 [x.1], x.2)
end
/-- what is left as one phrase of a class; at_: where the other class is told -/
def all (n : Nat) (class_ at_ : Int) : R T :=
  (phrase ws e (13 * ws.length + 20) n 0).andThen fun x =>
    if x.2 < ws.length then .bad 32 (place ws e x.2)
    else if T.cls x.1.kind ≠ class_ then .bad 5 at_
    else if T.may x.1 class_ ≠ 0 then .bad (T.may x.1 class_) e
    else .ok x.1
end
def read (s : List UInt8) (class_ : Int) : R T := (cut s).andThen fun ws => all ws s.length 0 class_ 0
end Pz
end Go.Proofs.YtboondbognbnnaaGreatDoor

namespace Go.Proofs.YtboondbognbnnaaGreatDoor
namespace Pz
set_option linter.unusedSectionVars false

/-- an answer as told, or an error with a place in the text -/
def Fine {α : Type} (e : Nat) (P : α → Prop) : R α → Prop
  | .ok a => P a
  | .bad c p => c ≠ 0 ∧ 0 ≤ p ∧ p ≤ e
theorem Fine.bind {α β : Type} {e : Nat} {P : α → Prop} {Q : β → Prop} {r : R α} {f : α → R β} (h : Fine e P r) (k : ∀ a, P a → Fine e Q (f a)) : Fine e Q (r.andThen f) := by
  cases r with
  | ok a => exact k a h
  | bad c p => exact h
theorem Fine.mono {α : Type} {e : Nat} {P Q : α → Prop} {r : R α} (h : Fine e P r) (k : ∀ a, P a → Q a) : Fine e Q r := by
  cases r with
  | ok a => exact k a h
  | bad c p => exact h
theorem Fine.wrong {α : Type} {e : Nat} {P : α → Prop} {c p : Int} (hc : c ≠ 0) (h : 0 ≤ p ∧ p ≤ e) : Fine e P (.bad c p : R α) := ⟨hc, h.1, h.2⟩

theorem sees_lt {ws : List W} {n : Nat} {s : List UInt8} (h : sees ws n s = true) : n < ws.length := by
  unfold sees at h
  cases hn : ws[n]? with
  | none => simp [hn] at h
  | some w => exact (List.getElem?_eq_some_iff.1 hn).1
theorem tie_lt {ws : List W} {n : Nat} (h : tie ws n = true) : n < ws.length := by
  unfold tie at h
  cases hn : ws[n]? with
  | none => simp [hn] at h
  | some w => exact (List.getElem?_eq_some_iff.1 hn).1
theorem begins_lt {ws : List W} {n : Nat} (h : begins ws n = true) : n < ws.length := by
  unfold begins at h
  cases hn : ws[n]? with
  | none => simp [hn] at h
  | some w => exact (List.getElem?_eq_some_iff.1 hn).1
theorem sentenceL_fine {e : Nat} {l : List U} (hl : ∀ u ∈ l, 0 ≤ u.at_ ∧ u.at_ ≤ e) : ∀ (i : Nat) (t : T), Fine e (fun _ => True) (sentenceL l i t)
  | 0, _ => trivial
  | i + 1, t => by
    unfold sentenceL
    cases h : l[i]? with
    | none => trivial
    | some u =>
      have hu := hl u (List.mem_of_getElem? h)
      dsimp only
      split
      · exact .wrong (by decide) hu
      · cases i with
        | zero => trivial
        | succ j =>
          dsimp only
          cases h' : l[j]? with
          | none => trivial
          | some v =>
            dsimp only
            split
            · exact sentenceL_fine hl j _
            · exact sentenceL_fine hl (j + 1) _
theorem trainL_fine {e : Nat} {l : List U} (hl : ∀ u ∈ l, 0 ≤ u.at_ ∧ u.at_ ≤ e) : ∀ (i : Nat) (t : T), Fine e (fun _ => True) (trainL l i t)
  | 0, _ => trivial
  | 1, t => by
    unfold trainL
    cases h : l[0]? with
    | none => trivial
    | some u =>
      dsimp only
      split
      · exact .wrong (by decide) (hl u (List.mem_of_getElem? h))
      · trivial
  | i + 2, t => by
    unfold trainL
    cases h : l[i]? with
    | none => trivial
    | some u =>
      cases h' : l[i + 1]? with
      | none => trivial
      | some v =>
        dsimp only
        split
        · exact .wrong (by decide) (hl v (List.mem_of_getElem? h'))
        · split
          · exact trainL_fine hl i _
          · exact trainL_fine hl i _
theorem adverb_fine {e : Nat} {w : W} {u : U} (h : w.at_ ≤ e) : Fine e (fun _ => True) (adverb w u) := by
  unfold adverb
  split
  · exact .wrong (by decide) ⟨by omega, by omega⟩
  · trivial
theorem constant_fine {e : Nat} {w : W} (h : w.at_ ≤ e) : Fine e (fun _ => True) (constant w) := by
  unfold constant
  dsimp only
  split
  · exact .wrong (by decide) ⟨by omega, by omega⟩
  · trivial
section
variable {ws : List W} {e : Nat} (hw : ∀ (i : Nat) (w : W), ws[i]? = some w → w.at_ ≤ e)
include hw
theorem place_in (n : Nat) : 0 ≤ place ws e n ∧ place ws e n ≤ e := by
  unfold place
  cases h : ws[n]? with
  | none => simp
  | some w => have := hw n w h; simp; omega
theorem takes_fine (n : Nat) (s : List UInt8) : Fine e (fun m => m = n + 1 ∧ n < ws.length) (takes ws e n s) := by
  unfold takes
  split
  · rename_i h; exact ⟨rfl, sees_lt h⟩
  · exact .wrong (by decide) (place_in hw n)
theorem opens_fine (n o : Nat) : Fine e (fun q => q.1 = n + 1) (opens ws e n o) := by
  unfold opens
  split
  · exact .wrong (by decide) (place_in hw n)
  · rfl
end

/-- turns that are wanted at a place, for a function of a rank -/
def need (ws : List W) (n rank : Nat) : Nat := 13 * (ws.length - n) + rank
def InU (e : Nat) (u : U) : Prop := 0 ≤ u.at_ ∧ u.at_ ≤ e
/-- all that the functions answer with so many turns -/
structure Sound (ws : List W) (e f : Nat) : Prop where
  primary : ∀ n o, n < ws.length → need ws n 1 ≤ f → Fine e (fun x => InU e x.1 ∧ n < x.2 ∧ x.2 ≤ ws.length) (primary ws e f n o)
  side : ∀ n o, need ws n 2 ≤ f → Fine e (fun x => InU e x.1 ∧ n < x.2 ∧ x.2 ≤ ws.length) (side ws e f n o)
  behind : ∀ n o, need ws n 3 ≤ f → Fine e (fun x => n < x.2 ∧ x.2 ≤ ws.length) (behind ws e f n o)
  either : ∀ w n o u kv ko, w.at_ ≤ e → need ws n 3 ≤ f → Fine e (fun x => n < x.2 ∧ x.2 ≤ ws.length) (either ws e f w n o u kv ko)
  conj : ∀ w n o u, w.at_ ≤ e → need ws n 4 ≤ f → Fine e (fun x => n < x.2 ∧ x.2 ≤ ws.length) (conjunction ws e f w n o u)
  behindU : ∀ (at_ : Int) (n o : Nat) (u : U), 0 ≤ at_ ∧ at_ ≤ e → InU e u → n ≤ ws.length → need ws n 2 ≤ f → Fine e (fun x => InU e x.1 ∧ n ≤ x.2 ∧ x.2 ≤ ws.length) (behindU ws e f at_ n o u)
  unit : ∀ n o, n < ws.length → need ws n 3 ≤ f → Fine e (fun x => InU e x.1 ∧ n < x.2 ∧ x.2 ≤ ws.length) (unit ws e f n o)
  fromU : ∀ n o l, (∀ u ∈ l, InU e u) → (l ≠ [] ∨ begins ws n = true) → n ≤ ws.length → need ws n 4 ≤ f → Fine e (fun x => n ≤ x.2 ∧ (begins ws n = true → n < x.2) ∧ x.2 ≤ ws.length) (fromU ws e f n o l)
  phrase : ∀ n o, need ws n 5 ≤ f → Fine e (fun x => n < x.2 ∧ x.2 ≤ ws.length) (phrase ws e f n o)
  noun : ∀ n o, need ws n 6 ≤ f → Fine e (fun x => n < x.2 ∧ x.2 ≤ ws.length) (noun ws e f n o)
  sentence : ∀ n o, need ws n 7 ≤ f → Fine e (fun x => n < x.2 ∧ x.2 ≤ ws.length) (sentence ws e f n o)
  body : ∀ n o, n ≤ ws.length → need ws n 8 ≤ f → Fine e (fun x => n ≤ x.2 ∧ x.2 ≤ ws.length) (body ws e f n o)
  bodies : ∀ n o l, n ≤ ws.length → need ws n 1 ≤ f → Fine e (fun x => n ≤ x.2 ∧ x.2 ≤ ws.length) (bodies ws e f n o l)
  within : ∀ w n o, w.at_ ≤ e → n ≤ ws.length → need ws n 9 ≤ f → Fine e (fun x => InU e x.1 ∧ n < x.2 ∧ x.2 ≤ ws.length) (within ws e f w n o)
  picks : ∀ w n o l, w.at_ ≤ e → need ws n 1 ≤ f → Fine e (fun x => InU e x.1 ∧ n < x.2 ∧ x.2 ≤ ws.length) (picks ws e f w n o l)
  bracket : ∀ w n o, w.at_ ≤ e → need ws n 4 ≤ f → Fine e (fun x => InU e x.1 ∧ n < x.2 ∧ x.2 ≤ ws.length) (bracket ws e f w n o)
  ties : ∀ w n o l, w.at_ ≤ e → l ≠ [] → (∀ u ∈ l, InU e u) → need ws n 1 ≤ f → Fine e (fun x => InU e x.1 ∧ n < x.2 ∧ x.2 ≤ ws.length) (ties ws e f w n o l)

section
variable {ws : List W} {e f : Nat} (hw : ∀ (i : Nat) (w : W), ws[i]? = some w → w.at_ ≤ e) (ih : Sound ws e f)
include hw ih
theorem primary_sound (n o : Nat) (hn : n < ws.length) (hf : need ws n 1 ≤ f + 1) : Fine e (fun x => InU e x.1 ∧ n < x.2 ∧ x.2 ≤ ws.length) (primary ws e (f + 1) n o) := by
  unfold need at hf
  obtain ⟨w, h⟩ : ∃ w, ws[n]? = some w := ⟨_, List.getElem?_eq_getElem hn⟩
  have hwe := hw n w h
  have hin : InU e ⟨.mk 0 ⟨#[]⟩ 0 [] [] [], none, false, w.at_⟩ := ⟨Int.natCast_nonneg _, Int.ofNat_le.2 hwe⟩
  simp only [primary, h]
  split
  · exact (constant_fine hwe).bind (fun t _ => ⟨hin, Nat.lt_succ_self n, hn⟩)
  · split
    · exact ⟨hin, Nat.lt_succ_self n, hn⟩
    · split
      · exact ⟨hin, Nat.lt_succ_self n, hn⟩
      · split
        · exact ⟨hin, Nat.lt_succ_self n, hn⟩
        · refine (opens_fine hw n o).bind (fun q hq => ?_)
          refine (ih.within w q.1 q.2 hwe (by omega) (by unfold need; omega)).mono ?_
          rintro x ⟨h1, h2, h3⟩
          exact ⟨h1, by omega, h3⟩
theorem side_sound (n o : Nat) (hf : need ws n 2 ≤ f + 1) : Fine e (fun x => InU e x.1 ∧ n < x.2 ∧ x.2 ≤ ws.length) (side ws e (f + 1) n o) := by
  unfold need at hf
  simp only [side]
  split
  · exact .wrong (by decide) (place_in hw n)
  · rename_i h
    have hb : begins ws n = true := by
      cases hb : begins ws n with
      | true => rfl
      | false => exact absurd (.inl hb) h
    exact ih.primary n o (begins_lt hb) (by unfold need; omega)
theorem behind_sound (n o : Nat) (hf : need ws n 3 ≤ f + 1) : Fine e (fun x => n < x.2 ∧ x.2 ≤ ws.length) (behind ws e (f + 1) n o) := by
  unfold need at hf
  simp only [behind]
  refine (ih.side n o (by unfold need; omega)).bind (fun x hx => ?_)
  split
  · exact hx.2
  · exact .wrong (by decide) hx.1
theorem either_sound (w : W) (n o : Nat) (u : U) (kv ko : Int) (hwe : w.at_ ≤ e) (hf : need ws n 3 ≤ f + 1) : Fine e (fun x => n < x.2 ∧ x.2 ≤ ws.length) (either ws e (f + 1) w n o u kv ko) := by
  unfold need at hf
  simp only [either]
  split
  · exact .wrong (by decide) ⟨Int.natCast_nonneg _, Int.ofNat_le.2 hwe⟩
  · refine (ih.side n o (by unfold need; omega)).bind (fun x hx => ?_)
    split
    · exact hx.2
    · split
      · exact .wrong (by decide) hx.1
      · exact hx.2
theorem conj_sound (w : W) (n o : Nat) (u : U) (hwe : w.at_ ≤ e) (hf : need ws n 4 ≤ f + 1) : Fine e (fun x => n < x.2 ∧ x.2 ≤ ws.length) (conjunction ws e (f + 1) w n o u) := by
  unfold need at hf
  have hwp : 0 ≤ (w.at_ : Int) ∧ (w.at_ : Int) ≤ e := ⟨Int.natCast_nonneg _, Int.ofNat_le.2 hwe⟩
  have hbe := ih.behind n o (by unfold need; omega)
  have hei := fun kv ko => ih.either w n o u kv ko hwe (by unfold need; omega)
  simp only [conjunction]
  split
  · split
    · exact .wrong (by decide) hwp
    · exact hbe.bind (fun x hx => hx)
  · split
    · split
      · exact hbe.bind (fun x hx => hx)
      · exact hei _ _
    · split
      · exact hei _ _
      · split
        · split
          · exact .wrong (by decide) hwp
          · split
            · exact .wrong (by decide) (place_in hw n)
            · rename_i v hv
              have hlt := (List.getElem?_eq_some_iff.1 hv).1
              split
              · exact .wrong (by decide) (place_in hw n)
              · split
                · split
                  · exact .wrong (by decide) (place_in hw n)
                  · exact ⟨Nat.lt_succ_self n, hlt⟩
                · exact ⟨Nat.lt_succ_self n, hlt⟩
        · split
          · exact hbe.bind (fun x hx => hx)
          · split
            · exact .wrong (by decide) hwp
            · exact hbe.bind (fun x hx => hx)
theorem behindU_sound (at_ : Int) (n o : Nat) (u : U) (ha : 0 ≤ at_ ∧ at_ ≤ e) (hu : InU e u) (hn : n ≤ ws.length) (hf : need ws n 2 ≤ f + 1) : Fine e (fun x => InU e x.1 ∧ n ≤ x.2 ∧ x.2 ≤ ws.length) (behindU ws e (f + 1) at_ n o u) := by
  unfold need at hf
  simp only [behindU]
  split
  · split
    · exact .wrong (by decide) (place_in hw n)
    · exact ⟨hu, Nat.le_refl n, hn⟩
  · rename_i w h
    have hwe := hw n w h
    have hlt := (List.getElem?_eq_some_iff.1 h).1
    split
    · split
      · exact .wrong (by decide) (place_in hw n)
      · exact ⟨hu, Nat.le_refl n, hn⟩
    · split
      · exact .wrong (by decide) ⟨Int.natCast_nonneg _, Int.ofNat_le.2 hwe⟩
      · split
        · refine (adverb_fine hwe).bind (fun t _ => ?_)
          refine (ih.behindU at_ (n + 1) o ⟨t, none, false, at_⟩ ha ha hlt (by unfold need; omega)).mono ?_
          rintro x ⟨h1, h2, h3⟩
          exact ⟨h1, by omega, h3⟩
        · refine (ih.conj w (n + 1) o u hwe (by unfold need; omega)).bind (fun y hy => ?_)
          refine (ih.behindU at_ y.2 o ⟨y.1, none, false, at_⟩ ha ha hy.2 (by unfold need; omega)).mono ?_
          rintro x ⟨h1, h2, h3⟩
          exact ⟨h1, by omega, h3⟩
theorem unit_sound (n o : Nat) (hn : n < ws.length) (hf : need ws n 3 ≤ f + 1) : Fine e (fun x => InU e x.1 ∧ n < x.2 ∧ x.2 ≤ ws.length) (unit ws e (f + 1) n o) := by
  unfold need at hf
  simp only [unit]
  split
  · exact ⟨place_in hw n, Nat.lt_succ_self n, hn⟩
  · refine (ih.primary n o hn (by unfold need; omega)).bind (fun y hy => ?_)
    refine (ih.behindU _ y.2 o y.1 (place_in hw n) hy.1 hy.2.2 (by unfold need; omega)).mono ?_
    rintro x ⟨h1, h2, h3⟩
    exact ⟨h1, by omega, h3⟩
theorem fromU_sound (n o : Nat) (l : List U) (hl : ∀ u ∈ l, InU e u) (hne : l ≠ [] ∨ begins ws n = true) (hn : n ≤ ws.length) (hf : need ws n 4 ≤ f + 1) : Fine e (fun x => n ≤ x.2 ∧ (begins ws n = true → n < x.2) ∧ x.2 ≤ ws.length) (fromU ws e (f + 1) n o l) := by
  unfold need at hf
  simp only [fromU]
  split
  · rename_i hb
    have hlt := begins_lt hb
    refine (ih.unit n o hlt (by unfold need; omega)).bind (fun y hy => ?_)
    refine (ih.fromU y.2 o (l ++ [y.1]) (fun u hu => ?_) (.inl (by simp)) hy.2.2 (by unfold need; omega)).mono ?_
    · rcases List.mem_append.1 hu with h | h
      · exact hl u h
      · simp at h; subst h; exact hy.1
    · rintro x ⟨h1, _, h3⟩
      exact ⟨by omega, fun _ => by omega, h3⟩
  · rename_i hb
    split
    · rename_i h
      rcases hne with h' | h'
      · exact absurd (List.getLast?_eq_none_iff.1 h) h'
      · exact absurd h' hb
    · rename_i u h
      have hu := hl u (List.mem_of_getLast? h)
      split
      · exact (sentenceL_fine hl _ _).bind (fun t _ => ⟨Nat.le_refl n, fun h => absurd h hb, hn⟩)
      · split
        · exact .wrong (by decide) (place_in hw n)
        · split
          · exact .wrong (by decide) hu
          · exact (trainL_fine hl _ _).bind (fun t _ => ⟨Nat.le_refl n, fun h => absurd h hb, hn⟩)
theorem phrase_sound (n o : Nat) (hf : need ws n 5 ≤ f + 1) : Fine e (fun x => n < x.2 ∧ x.2 ≤ ws.length) (phrase ws e (f + 1) n o) := by
  unfold need at hf
  simp only [phrase]
  split
  · exact .wrong (by decide) (place_in hw n)
  · rename_i h
    have hb : begins ws n = true := by simpa using h
    refine (ih.fromU n o [] (by simp) (.inr hb) (Nat.le_of_lt (begins_lt hb)) (by unfold need; omega)).mono ?_
    rintro x ⟨_, h2, h3⟩
    exact ⟨h2 hb, h3⟩
theorem noun_sound (n o : Nat) (hf : need ws n 6 ≤ f + 1) : Fine e (fun x => n < x.2 ∧ x.2 ≤ ws.length) (noun ws e (f + 1) n o) := by
  unfold need at hf
  simp only [noun]
  refine (ih.phrase n o (by unfold need; omega)).bind (fun x hx => ?_)
  split
  · exact hx
  · exact .wrong (by decide) (place_in hw n)
theorem body_sound (n o : Nat) (hn : n ≤ ws.length) (hf : need ws n 8 ≤ f + 1) : Fine e (fun x => n ≤ x.2 ∧ x.2 ≤ ws.length) (body ws e (f + 1) n o) := by
  unfold need at hf
  simp only [body]
  split
  · exact ⟨Nat.le_refl n, hn⟩
  · refine (ih.sentence n o (by unfold need; omega)).bind (fun y hy => ?_)
    refine (ih.bodies y.2 o _ hy.2 (by unfold need; omega)).mono ?_
    rintro x ⟨h1, h2⟩
    exact ⟨by omega, h2⟩
theorem bodies_sound (n o : Nat) (l : List T) (hn : n ≤ ws.length) (hf : need ws n 1 ≤ f + 1) : Fine e (fun x => n ≤ x.2 ∧ x.2 ≤ ws.length) (bodies ws e (f + 1) n o l) := by
  unfold need at hf
  simp only [bodies]
  split
  · rename_i h
    have hlt := sees_lt h
    refine (ih.sentence (n + 1) o (by unfold need; omega)).bind (fun y hy => ?_)
    refine (ih.bodies y.2 o _ hy.2 (by unfold need; omega)).mono ?_
    rintro x ⟨h1, h2⟩
    exact ⟨by omega, h2⟩
  · exact ⟨Nat.le_refl n, hn⟩
theorem picks_sound (w : W) (n o : Nat) (l : List T) (hwe : w.at_ ≤ e) (hf : need ws n 1 ≤ f + 1) : Fine e (fun x => InU e x.1 ∧ n < x.2 ∧ x.2 ≤ ws.length) (picks ws e (f + 1) w n o l) := by
  unfold need at hf
  have hin : 0 ≤ (w.at_ : Int) ∧ (w.at_ : Int) ≤ e := ⟨Int.natCast_nonneg _, Int.ofNat_le.2 hwe⟩
  simp only [picks]
  split
  · rename_i h
    have hlt := sees_lt h
    refine (ih.noun (n + 1) o (by unfold need; omega)).bind (fun y hy => ?_)
    refine (ih.picks w y.2 o _ hwe (by unfold need; omega)).mono ?_
    rintro x ⟨h1, h2, h3⟩
    exact ⟨h1, by omega, h3⟩
  · exact (takes_fine hw n _).bind (fun m hm => ⟨hin, by omega, by omega⟩)
theorem ties_sound (w : W) (n o : Nat) (l : List U) (hwe : w.at_ ≤ e) (hne : l ≠ []) (hl : ∀ u ∈ l, InU e u) (hf : need ws n 1 ≤ f + 1) : Fine e (fun x => InU e x.1 ∧ n < x.2 ∧ x.2 ≤ ws.length) (ties ws e (f + 1) w n o l) := by
  unfold need at hf
  have hin : 0 ≤ (w.at_ : Int) ∧ (w.at_ : Int) ≤ e := ⟨Int.natCast_nonneg _, Int.ofNat_le.2 hwe⟩
  simp only [ties]
  split
  · exact (takes_fine hw n _).bind (fun m hm => ⟨hin, by omega, by omega⟩)
  · rename_i ht
    have hlt := tie_lt (n := n) (by simpa using ht)
    split
    · rename_i h; exact absurd (List.getLast?_eq_none_iff.1 h) hne
    · rename_i u h
      split
      · exact .wrong (by decide) (hl u (List.mem_of_getLast? h))
      · split
        · exact .wrong (by decide) (place_in hw (n + 1))
        · rename_i hb
          have hb : begins ws (n + 1) = true := by simpa using hb
          have hlt2 := begins_lt hb
          refine (ih.unit (n + 1) o hlt2 (by unfold need; omega)).bind (fun y hy => ?_)
          split
          · exact .wrong (by decide) hy.1
          · refine (ih.ties w y.2 o (l ++ [y.1]) hwe (by simp) (fun u hu => ?_) (by unfold need; omega)).mono ?_
            · rcases List.mem_append.1 hu with h | h
              · exact hl u h
              · simp at h; subst h; exact hy.1
            · rintro x ⟨h1, h2, h3⟩
              exact ⟨h1, by omega, h3⟩
theorem bracket_sound (w : W) (n o : Nat) (hwe : w.at_ ≤ e) (hf : need ws n 4 ≤ f + 1) : Fine e (fun x => InU e x.1 ∧ n < x.2 ∧ x.2 ≤ ws.length) (bracket ws e (f + 1) w n o) := by
  unfold need at hf
  have hin : 0 ≤ (w.at_ : Int) ∧ (w.at_ : Int) ≤ e := ⟨Int.natCast_nonneg _, Int.ofNat_le.2 hwe⟩
  simp only [bracket]
  split
  · exact .wrong (by decide) (place_in hw n)
  · rename_i hb
    have hb : begins ws n = true := by simpa using hb
    have hlt := begins_lt hb
    refine (ih.unit n o hlt (by unfold need; omega)).bind (fun y hy => ?_)
    have hone : ∀ u ∈ [y.1], InU e u := fun u hu => by simp at hu; subst hu; exact hy.1
    split
    · refine (ih.fromU y.2 o [y.1] hone (.inl (by simp)) hy.2.2 (by unfold need; omega)).bind (fun z hz => ?_)
      exact (takes_fine hw z.2 _).bind (fun m hm => ⟨hin, by omega, by omega⟩)
    · refine (ih.ties w y.2 o [y.1] hwe (by simp) hone (by unfold need; omega)).mono ?_
      rintro x ⟨h1, h2, h3⟩
      exact ⟨h1, by omega, h3⟩
theorem within_sound (w : W) (n o : Nat) (hwe : w.at_ ≤ e) (hn : n ≤ ws.length) (hf : need ws n 9 ≤ f + 1) : Fine e (fun x => InU e x.1 ∧ n < x.2 ∧ x.2 ≤ ws.length) (within ws e (f + 1) w n o) := by
  unfold need at hf
  have hin : 0 ≤ (w.at_ : Int) ∧ (w.at_ : Int) ≤ e := ⟨Int.natCast_nonneg _, Int.ofNat_le.2 hwe⟩
  simp only [within]
  split
  · exact ih.bracket w n o hwe (by unfold need; omega)
  · split
    · refine (ih.noun n o (by unfold need; omega)).bind (fun y hy => ?_)
      refine (takes_fine hw y.2 _).bind (fun m hm => ?_)
      refine (ih.noun m o (by unfold need; omega)).bind (fun z hz => ?_)
      refine (ih.picks w z.2 o _ hwe (by unfold need; omega)).mono ?_
      rintro x ⟨h1, h2, h3⟩
      exact ⟨h1, by omega, h3⟩
    · refine (ih.body n o hn (by unfold need; omega)).bind (fun y hy => ?_)
      exact (takes_fine hw y.2 _).bind (fun m hm => ⟨hin, by omega, by omega⟩)
theorem sentence_sound (n o : Nat) (hf : need ws n 7 ≤ f + 1) : Fine e (fun x => n < x.2 ∧ x.2 ≤ ws.length) (sentence ws e (f + 1) n o) := by
  unfold need at hf
  have hno := ih.noun n o (by unfold need; omega)
  simp only [sentence]
  split
  · rename_i h
    have hlt := sees_lt h
    refine (opens_fine hw n o).bind (fun q hq => ?_)
    refine (ih.noun q.1 q.2 (by unfold need; omega)).bind (fun x hx => ?_)
    refine (takes_fine hw x.2 _).bind (fun m hm => ?_)
    refine (ih.body m q.2 (by omega) (by unfold need; omega)).bind (fun y hy => ?_)
    split
    · rename_i h2
      have hlt2 := sees_lt h2
      refine (ih.body (y.2 + 1) q.2 (by omega) (by unfold need; omega)).bind (fun z hz => ?_)
      exact (takes_fine hw z.2 _).bind (fun k hk => ⟨by omega, by omega⟩)
    · exact (takes_fine hw y.2 _).bind (fun k hk => ⟨by omega, by omega⟩)
  · split
    · rename_i h
      have hlt := sees_lt h
      refine (opens_fine hw n o).bind (fun q hq => ?_)
      refine (ih.noun q.1 q.2 (by unfold need; omega)).bind (fun x hx => ?_)
      refine (takes_fine hw x.2 _).bind (fun m hm => ?_)
      refine (ih.body m q.2 (by omega) (by unfold need; omega)).bind (fun y hy => ?_)
      exact (takes_fine hw y.2 _).bind (fun k hk => ⟨by omega, by omega⟩)
    · split
      · split
        · rename_i h
          have hlt := sees_lt h.2
          refine (ih.noun (n + 2) o (by unfold need; omega)).bind (fun x hx => ⟨by omega, hx.2⟩)
        · exact hno.bind (fun x hx => hx)
      · exact hno.bind (fun x hx => hx)
end
/-- enough turns: every place lies in the text -/
theorem sound {ws : List W} {e : Nat} (hw : ∀ (i : Nat) (w : W), ws[i]? = some w → w.at_ ≤ e) : ∀ f, Sound ws e f
  | 0 => by constructor <;> (intros; exfalso; simp only [need] at *; omega)
  | f + 1 => by
    have ih := sound hw f
    exact ⟨primary_sound hw ih, side_sound hw ih, behind_sound hw ih, either_sound hw ih, conj_sound hw ih, behindU_sound hw ih, unit_sound hw ih, fromU_sound hw ih, phrase_sound hw ih, noun_sound hw ih, sentence_sound hw ih, body_sound hw ih, bodies_sound hw ih, within_sound hw ih, picks_sound hw ih, bracket_sound hw ih, ties_sound hw ih⟩
/-- what is read of words: a term that may be, or an error and a place -/
theorem all_fine {ws : List W} {e : Nat} (hw : ∀ (i : Nat) (w : W), ws[i]? = some w → w.at_ ≤ e) (n : Nat) {c p : Int} (hp : 0 ≤ p ∧ p ≤ e) : Fine e (fun t => T.cls t.kind = c ∧ T.may t c = 0) (all ws e n c p) := by
  have h := (sound hw (13 * ws.length + 20)).phrase n 0 (by unfold need; omega)
  unfold all
  refine h.bind (fun x hx => ?_)
  split
  · exact .wrong (by decide) (place_in hw _)
  · split
    · exact .wrong (by decide) hp
    · split
      · rename_i hm; exact ⟨hm, Int.natCast_nonneg _, Int.le_refl _⟩
      · rename_i h1 h2; exact ⟨Decidable.not_not.1 h1, Decidable.not_not.1 h2⟩
end Pz
end Go.Proofs.YtboondbognbnnaaGreatDoor

namespace Go.Proofs.YtboondbognbnnaaGreatDoor
namespace Pz

theorem span_le (p : UInt8 → Bool) : ∀ l, span p l ≤ l.length
  | [] => Nat.le_refl 0
  | c :: r => by
    unfold span
    split
    · have := span_le p r; simp; omega
    · simp
def AtIn (m : Nat) (ws : List W) : Prop := ∀ w ∈ ws, w.at_ ≤ m ∧ w.text ≠ []
theorem AtIn.snoc {m : Nat} {ws : List W} (h : AtIn m ws) {w : W} (hw : w.at_ ≤ m ∧ w.text ≠ []) : AtIn m (ws ++ [w]) := by
  intro v hv
  rcases List.mem_append.1 hv with h' | h'
  · exact h v h'
  · simp at h'; subst h'; exact hw
theorem take_ne {r : List UInt8} {n : Nat} (h1 : 1 ≤ n) (h2 : 1 ≤ r.length) : r.take n ≠ [] := fun h => by
  have := congrArg List.length h
  rw [List.length_take, List.length_nil] at this
  omega
def Step (m at_ : Nat) : Nat × List W → Prop := fun x => at_ < x.1 ∧ x.1 ≤ m ∧ AtIn m x.2
theorem numLen_in {r : List UInt8} {b : UInt8} {q : List UInt8} (hr : r = b :: q) (hb : b = 95 ∨ digit b = true) : 1 ≤ numLen r ∧ numLen r ≤ r.length := by
  subst hr
  unfold numLen signLen
  by_cases h : b = 95
  · subst h
    have := span_le digit q
    simp
    omega
  · have hd : digit b = true := hb.resolve_left h
    have := span_le digit q
    simp [h, span, hd]
    omega
theorem number_fine {r : List UInt8} {at_ m : Nat} {ws : List W} {b : UInt8} {q : List UInt8} (hr : r = b :: q) (hb : b = 95 ∨ digit b = true) (hm : at_ + r.length ≤ m) (hws : AtIn m ws) : Fine m (Step m at_) (number r at_ ws) := by
  have hn := numLen_in hr hb
  have h1 : 1 ≤ r.length := by omega
  have hp : 0 ≤ (at_ : Int) ∧ (at_ : Int) ≤ m := ⟨Int.natCast_nonneg _, by omega⟩
  unfold number
  split
  · exact .wrong (by decide) hp
  · split
    · exact .wrong (by decide) hp
    · split
      · rename_i w hw
        have hwm := hws w (List.mem_of_getLast? hw)
        split
        · refine ⟨by dsimp only; omega, by dsimp only; omega, AtIn.snoc (fun v hv => hws v (List.dropLast_subset _ hv)) ⟨hwm.1, by simp⟩⟩
        · exact ⟨by dsimp only; omega, by dsimp only; omega, hws.snoc ⟨by dsimp only; omega, take_ne hn.1 h1⟩⟩
      · exact ⟨by dsimp only; omega, by dsimp only; omega, AtIn.snoc (ws := []) (fun v hv => by cases hv) ⟨by dsimp only; omega, take_ne hn.1 h1⟩⟩
theorem name_fine {r : List UInt8} {at_ m : Nat} {ws : List W} {b : UInt8} {q : List UInt8} (hr : r = b :: q) (hb : letter b = true) (hm : at_ + r.length ≤ m) (hws : AtIn m ws) : Fine m (Step m at_) (name b r at_ ws) := by
  have hn : 1 ≤ span alnum r ∧ span alnum r ≤ r.length := by
    subst hr
    have h2 := span_le alnum q
    have ha : alnum b = true := by
      unfold letter at hb
      unfold alnum
      simp at hb ⊢
      rcases hb with h | h
      · exact .inl (.inl h)
      · exact .inl (.inr h)
    simp [span, ha]
    exact h2
  have hp : 0 ≤ (at_ : Int) ∧ (at_ : Int) ≤ m := ⟨Int.natCast_nonneg _, by omega⟩
  unfold name
  dsimp only
  generalize hs : span alnum r = n at hn ⊢
  split
  · rename_i h
    have hlt : n < r.length := (List.getElem?_eq_some_iff.1 h).1
    split
    · exact ⟨by dsimp only; omega, by dsimp only; omega, hws.snoc ⟨by dsimp only; omega, by simp⟩⟩
    · split
      · exact ⟨by dsimp only; omega, by dsimp only; omega, hws.snoc ⟨by dsimp only; omega, by simp⟩⟩
      · exact .wrong (by decide) hp
  · split
    · exact .wrong (by decide) hp
    · exact ⟨by dsimp only; omega, by dsimp only; omega, hws.snoc ⟨by dsimp only; omega, take_ne hn.1 (by omega)⟩⟩
theorem starts_len {p r : List UInt8} (h : starts p r = true) : p.length ≤ r.length := by
  unfold starts at h
  have h : r.take p.length = p := by simpa using h
  have h1 : (r.take p.length).length = p.length := congrArg List.length h
  simp at h1
  omega
theorem mark_fine {r : List UInt8} {at_ m : Nat} {ws : List W} {b : UInt8} {q : List UInt8} (hr : r = b :: q) (hm : at_ + r.length ≤ m) (hws : AtIn m ws) : Fine m (Step m at_) (mark b r at_ ws) := by
  have h1 : 1 ≤ r.length := by subst hr; simp
  have hp : 0 ≤ (at_ : Int) ∧ (at_ : Int) ≤ m := ⟨Int.natCast_nonneg _, by omega⟩
  have hs := span_le (fun c => c == 46 || c == 58) (r.drop 1)
  rw [List.length_drop] at hs
  have hl : markLen r = 1 + span (fun c => c == 46 || c == 58) (r.drop 1) := rfl
  unfold mark
  split
  · rename_i h
    have := starts_len h
    simp at this
    exact ⟨by dsimp only; omega, by dsimp only; omega, hws.snoc ⟨by dsimp only; omega, by simp⟩⟩
  · split
    · rename_i h
      have := starts_len h
      simp at this
      exact ⟨by dsimp only; omega, by dsimp only; omega, hws.snoc ⟨by dsimp only; omega, by simp⟩⟩
    · split
      · rename_i h
        have := starts_len h
        simp at this
        exact ⟨by dsimp only; omega, by dsimp only; omega, hws.snoc ⟨by dsimp only; omega, by simp⟩⟩
      · split
        · exact ⟨by dsimp only; omega, by dsimp only; omega, hws.snoc ⟨by dsimp only; omega, by simp⟩⟩
        · split
          · exact .wrong (by decide) hp
          · split
            · exact .wrong (by decide) hp
            · exact ⟨by dsimp only; omega, by dsimp only; omega, hws.snoc ⟨by dsimp only; omega, take_ne (by omega) h1⟩⟩
theorem word_fine {r : List UInt8} {at_ m : Nat} {ws : List W} {b : UInt8} {q : List UInt8} (hr : r = b :: q) (hm : at_ + r.length ≤ m) (hws : AtIn m ws) : Fine m (Step m at_) (word r at_ ws) := by
  have h0 := hr
  subst hr
  unfold word
  dsimp only
  · have hs := span_le letter q
    simp only [List.length_cons] at hm
    split
    · rename_i h
      refine ⟨?_, ?_, hws.snoc ⟨by dsimp only; omega, by simp⟩⟩
      · dsimp only; omega
      · dsimp only; omega
    · split
      · rename_i h; exact number_fine rfl h (by simpa using hm) hws
      · split
        · rename_i h; exact name_fine rfl h (by simpa using hm) hws
        · exact mark_fine rfl (by simpa using hm) hws
theorem cutF_fine : ∀ (f : Nat) (s : List UInt8) (at_ : Nat) (ws : List W), at_ ≤ s.length → AtIn s.length ws → Fine s.length (AtIn s.length) (cutF f s at_ ws)
  | 0, _, _, _, _, h => h
  | f + 1, s, at_, ws, ha, h => by
    unfold cutF
    split
    · exact h
    · rename_i b q e
      have hl : (s.drop at_).length = (b :: q).length := congrArg List.length e
      simp only [List.length_drop, List.length_cons] at hl
      split
      · exact cutF_fine f s (at_ + 1) ws (by omega) h
      · split
        · exact h
        · refine (word_fine (m := s.length) rfl (by simp only [List.length_cons]; omega) h).bind (fun x hx => ?_)
          exact cutF_fine f s x.1 x.2 hx.2.1 hx.2.2
theorem cut_fine (s : List UInt8) : Fine s.length (AtIn s.length) (cut s) := by
  unfold cut
  split
  · exact .wrong (by decide) ⟨Int.le_refl _, Int.natCast_nonneg _⟩
  · exact cutF_fine _ s 0 [] (Nat.zero_le _) (fun w hw => by cases hw)
theorem read_fine (s : List UInt8) (c : Int) : Fine s.length (fun t => T.cls t.kind = c ∧ T.may t c = 0) (read s c) := by
  unfold read
  refine (cut_fine s).bind (fun ws hws => ?_)
  exact all_fine (fun i w h => (hws w (List.mem_of_getElem? h)).1) 0 ⟨Int.le_refl _, Int.natCast_nonneg _⟩
/-- no text is a verb and a noun -/
theorem read_one {s : List UInt8} {t u : T} (h : read s 3 = .ok t) (k : read s 1 = .ok u) : False := by
  unfold read at h k
  cases hc : cut s with
  | bad c p => rw [hc] at h; cases h
  | ok ws =>
    rw [hc] at h k
    have h : all ws s.length 0 3 0 = .ok t := h
    have k : all ws s.length 0 1 0 = .ok u := k
    unfold all at h k
    cases hp : phrase ws s.length (13 * ws.length + 20) 0 0 with
    | bad c p => rw [hp] at h; cases h
    | ok x =>
      rw [hp] at h k
      simp only [R.andThen] at h k
      split at h
      · cases h
      · split at h
        · cases h
        · rename_i h1 h2
          have h2 := Decidable.not_not.1 h2
          rw [if_neg h1, if_pos (by rw [h2]; decide)] at k
          cases k

/-- a line -/
inductive L where
  | none
  | noun (t : T)
  | named (kind : Int) (name : List UInt8) (t : T)
  | request (name : List UInt8) (arg : Option (List UInt8))
def trimR (s : List UInt8) : List UInt8 := (s.reverse.dropWhile (· == 32)).reverse
def trim (s : List UInt8) : List UInt8 := trimR (s.dropWhile (· == 32))
def request (s : List UInt8) (at_ : Nat) : R L :=
  let n := span small (s.drop (at_ + 1))
  if n = 0 then .bad 32 (at_ + 1)
  else
    let rest := trim (s.drop (at_ + 1 + n))
    .ok (.request ((s.drop (at_ + 1)).take n) (if rest = [] then Option.none else some rest))
def line (s : List UInt8) : R L :=
  if 4096 < s.length then .bad 2 0
  else
    let first := span (· == 32) s
    if s[first]? = some 41 then request s first
    else (cut s).andThen fun ws =>
      match ws with
      | [] => .ok .none
      | w :: q =>
        match q with
        | v :: _ =>
          if v.kind = 7 ∧ v.text = [61, 58] then
            if w.kind ≠ 2 ∧ w.kind ≠ 3 then .bad 32 w.at_
            else (all ws s.length 2 (if w.kind = 3 then 3 else 1) (place ws s.length 2)).andThen fun t => .ok (.named w.kind w.text t)
          else (all ws s.length 0 1 (place ws s.length 0)).andThen fun t => .ok (.noun t)
        | [] => (all ws s.length 0 1 (place ws s.length 0)).andThen fun t => .ok (.noun t)
/-- what ParseBytes asks of a line -/
def LineOk : L → Prop
  | .none => True
  | .noun t => T.may t 1 = 0
  | .named k n t => n ≠ [] ∧ ((k = 2 ∧ T.may t 1 = 0) ∨ (k = 3 ∧ T.may t 3 = 0))
  | .request n _ => n ≠ []
theorem line_fine (s : List UInt8) : Fine s.length LineOk (line s) := by
  have hz : 0 ≤ (0 : Int) ∧ (0 : Int) ≤ s.length := ⟨Int.le_refl _, Int.natCast_nonneg _⟩
  unfold line
  split
  · exact .wrong (by decide) hz
  · dsimp only
    split
    · rename_i h
      have hlt := (List.getElem?_eq_some_iff.1 h).1
      unfold request
      dsimp only
      split
      · exact .wrong (by decide) ⟨by omega, by omega⟩
      · rename_i hn
        show _ ≠ []
        intro he
        have h1 := congrArg List.length he
        have h2 := span_le small (s.drop (span (· == 32) s + 1))
        rw [List.length_take] at h1
        simp only [List.length_nil] at h1
        omega
    · refine (cut_fine s).bind (fun ws hws => ?_)
      have hw : ∀ (i : Nat) (w : W), ws[i]? = some w → w.at_ ≤ s.length := fun i w h => (hws w (List.mem_of_getElem? h)).1
      split
      · trivial
      · rename_i w q
        have hwp : 0 ≤ (w.at_ : Int) ∧ (w.at_ : Int) ≤ s.length := ⟨Int.natCast_nonneg _, Int.ofNat_le.2 (hws w (by simp)).1⟩
        have h0 := all_fine hw 0 (c := 1) (place_in hw 0)
        split
        · split
          · split
            · exact .wrong (by decide) hwp
            · rename_i hk
              refine (all_fine hw 2 (place_in hw 2)).bind (fun t ht => ?_)
              refine ⟨(hws w (by simp)).2, ?_⟩
              by_cases h3 : w.kind = 3
              · rw [if_pos h3] at ht
                exact .inr ⟨h3, ht.2⟩
              · rw [if_neg h3] at ht
                exact .inl ⟨by omega, ht.2⟩
          · exact h0.bind (fun t ht => ht.2)
        · exact h0.bind (fun t ht => ht.2)
end Pz
end Go.Proofs.YtboondbognbnnaaGreatDoor

namespace Go.Proofs.YtboondbognbnnaaGreatDoor
namespace Pz

/-- a number's text -/
def NumOk (p : List UInt8) : Prop := p = [95] ∨ ∃ ds, (p = ds ∨ p = 95 :: ds) ∧ ds ≠ [] ∧ (∀ c ∈ ds, digit c = true) ∧ inRange (numberOf p) = true
def advL : List (List UInt8) := [[47], [92], [92, 46], [126]]
def conL : List (List UInt8) := [[64], [64, 58], [64, 46], [38], [38, 58], [38, 46], [38, 46, 58], [46, 46], [58, 58], [58, 46], [58], [94, 58], [34], [96]]
structure WordOk (m : Nat) (w : W) : Prop where
  len : w.text.length ≤ 2 * m
  k1 : 1 ≤ w.kind
  k7 : w.kind ≤ 7
  num : w.kind = 1 → ∀ p ∈ splitBlank w.text, NumOk p
  k5 : w.kind = 5 → w.text ∈ advL
  k6 : w.kind = 6 → w.text ∈ conL
structure Good (m : Nat) (ws : List W) : Prop where
  count : ws.length ≤ m
  word : ∀ w ∈ ws, WordOk m w
theorem WordOk.mono {m n : Nat} {w : W} (h : WordOk m w) (hm : m ≤ n) : WordOk n w := ⟨by have := h.len; omega, h.k1, h.k7, h.num, h.k5, h.k6⟩
theorem Good.snoc {m n : Nat} {ws : List W} {w : W} (h : Good m ws) (hm : m < n) (hw : WordOk n w) : Good n (ws ++ [w]) := by
  refine ⟨by have := h.count; simp; omega, fun v hv => ?_⟩
  rcases List.mem_append.1 hv with h' | h'
  · exact (h.word v h').mono (by omega)
  · simp at h'; subst h'; exact hw

theorem splitBlank_ne : ∀ l, splitBlank l ≠ []
  | [] => by simp [splitBlank]
  | c :: r => by
    have := splitBlank_ne r
    unfold splitBlank
    split
    · simp
    · split <;> simp
theorem splitBlank_plain : ∀ l : List UInt8, (∀ c ∈ l, c ≠ 32) → splitBlank l = [l]
  | [], _ => rfl
  | c :: r, h => by
    have ih := splitBlank_plain r (fun x hx => h x (by simp [hx]))
    have hc := h c (by simp)
    simp [splitBlank, ih, hc]
theorem splitBlank_app : ∀ a b : List UInt8, splitBlank (a ++ 32 :: b) = splitBlank a ++ splitBlank b
  | [], b => by
    have := splitBlank_ne b
    cases e : splitBlank b with
    | nil => exact absurd e this
    | cons p q => simp [splitBlank, e]
  | c :: a, b => by
    have ih := splitBlank_app a b
    rw [List.cons_append, splitBlank, ih]
    conv => rhs; rw [splitBlank]
    have hne := splitBlank_ne a
    cases hs : splitBlank a with
    | nil => exact absurd hs hne
    | cons p q =>
      simp only [List.cons_append]
      split <;> rfl

theorem span_all (p : UInt8 → Bool) : ∀ (l : List UInt8), ∀ c ∈ l.take (span p l), p c = true
  | [], c, h => by simp at h
  | b :: r, c, h => by
    unfold span at h
    split at h
    · rename_i hb
      rw [List.take_succ_cons] at h
      rcases List.mem_cons.1 h with e | h
      · rw [e]; exact hb
      · exact span_all p r c h
    · simp at h
theorem digit_ne {c : UInt8} (h : digit c = true) : c ≠ 32 ∧ c ≠ 95 := by
  unfold digit at h
  simp at h
  constructor <;> (rintro rfl; revert h; decide)
theorem numText {r : List UInt8} {b : UInt8} {q : List UInt8} (hr : r = b :: q) (hb : b = 95 ∨ digit b = true) (h : badText r = false) : NumOk (r.take (numLen r)) ∧ ∀ c ∈ r.take (numLen r), c ≠ 32 := by
  subst hr
  by_cases h95 : b = 95
  · subst h95
    have hl : numLen (95 :: q) = span digit q + 1 := by simp [numLen, signLen]; omega
    have ht : (95 :: q).take (numLen (95 :: q)) = 95 :: q.take (span digit q) := by rw [hl]; rfl
    have hd := span_all digit q
    refine ⟨?_, ?_⟩
    · unfold badText at h
      rw [ht] at h ⊢
      by_cases hz : q.take (span digit q) = []
      · exact .inl (by rw [hz])
      · refine .inr ⟨q.take (span digit q), .inr rfl, hz, hd, ?_⟩
        have hne : (95 :: q.take (span digit q) != [95]) = true := by simpa using hz
        rw [hne] at h
        simp only [Bool.true_and, Bool.or_eq_false_iff] at h
        simpa using h.2
    · rw [ht]
      intro c hc
      rcases List.mem_cons.1 hc with rfl | hc
      · decide
      · exact (digit_ne (hd c hc)).1
  · have hdb : digit b = true := hb.resolve_left h95
    have hs : signLen (b :: q) = 0 := by simp [signLen, h95]
    have hl : numLen (b :: q) = span digit (b :: q) := by simp [numLen, hs]
    have hd := span_all digit (b :: q)
    have hne : (b :: q).take (span digit (b :: q)) ≠ [] := by
      simp [span, hdb]
    refine ⟨?_, ?_⟩
    · refine .inr ⟨_, .inl rfl, ?_, ?_, ?_⟩
      · rw [hl]; exact hne
      · rw [hl]; exact hd
      · unfold badText at h
        have hn95 : ((b :: q).take (numLen (b :: q)) != [95]) = true := by
          rw [hl]
          simp [span, hdb, h95]
        rw [hn95] at h
        simp only [Bool.true_and, Bool.or_eq_false_iff] at h
        simpa using h.2
    · rw [hl]
      intro c hc
      exact (digit_ne (hd c hc)).1

theorem number_good {r : List UInt8} {at_ : Nat} {ws : List W} {b : UInt8} {q : List UInt8} {x : Nat × List W} (hr : r = b :: q) (hb : b = 95 ∨ digit b = true) (hg : Good at_ ws) (h : number r at_ ws = .ok x) : Good x.1 x.2 := by
  have hn := numLen_in hr hb
  unfold number at h
  split at h
  · cases h
  · split at h
    · cases h
    · rename_i h1 h2
      have h2 : badText r = false := by simpa using h2
      obtain ⟨hok, hpl⟩ := numText hr hb h2
      have hnew : WordOk (at_ + numLen r) ⟨1, r.take (numLen r), at_⟩ := by
        refine ⟨by simp only [List.length_take]; omega, by simp, by simp, fun _ p hp => ?_, fun e => by simp at e, fun e => by simp at e⟩
        rw [splitBlank_plain _ hpl] at hp
        simp at hp
        rw [hp]; exact hok
      split at h
      · rename_i w hw
        have hww := hg.word w (List.mem_of_getLast? hw)
        split at h
        · rename_i hk
          cases h
          have hne : ws ≠ [] := fun e => by subst e; simp at hw
          have hlen : ws.dropLast.length + 1 = ws.length := by
            have := List.length_pos_iff.2 hne
            simp; omega
          refine ⟨?_, ?_⟩
          · have := hg.count
            simp only [List.length_append, List.length_singleton]
            omega
          · intro v hv
            rcases List.mem_append.1 hv with h' | h'
            · exact (hg.word v (List.dropLast_subset _ h')).mono (Nat.le_add_right _ _)
            · simp at h'
              subst h'
              refine ⟨?_, hww.k1, hww.k7, fun _ p hp => ?_, fun e => by dsimp only at e; omega, fun e => by dsimp only at e; omega⟩
              · have := hww.len
                simp only [List.length_append, List.length_cons, List.length_take]
                omega
              · rw [splitBlank_app] at hp
                rcases List.mem_append.1 hp with hp | hp
                · exact hww.num hk p hp
                · rw [splitBlank_plain _ hpl] at hp
                  simp at hp
                  rw [hp]; exact hok
        · cases h
          exact hg.snoc (by omega) hnew
      · rename_i hw
        cases h
        have hws : ws = [] := List.getLast?_eq_none_iff.1 hw
        subst hws
        exact hg.snoc (by omega) hnew
theorem name_good {r : List UInt8} {at_ : Nat} {ws : List W} {b : UInt8} {q : List UInt8} {x : Nat × List W} (hr : r = b :: q) (hb : letter b = true) (hg : Good at_ ws) (h : name b r at_ ws = .ok x) : Good x.1 x.2 := by
  have hn : 1 ≤ span alnum r ∧ span alnum r ≤ r.length := by
    subst hr
    have h2 := span_le alnum q
    have ha : alnum b = true := by
      unfold letter at hb
      unfold alnum
      simp at hb ⊢
      rcases hb with h | h
      · exact .inl (.inl h)
      · exact .inl (.inr h)
    simp [span, ha]
    exact h2
  unfold name at h
  dsimp only at h
  generalize hs : span alnum r = n at hn h
  split at h
  · split at h
    · cases h
      exact hg.snoc (by dsimp only; omega) ⟨by simp; omega, (by simp), (by simp), fun e => by simp at e, fun e => by simp at e, fun e => by simp at e⟩
    · split at h
      · cases h
        exact hg.snoc (by dsimp only; omega) ⟨by simp; omega, (by simp), (by simp), fun e => by simp at e, fun e => by simp at e, fun e => by simp at e⟩
      · cases h
  · split at h
    · cases h
    · cases h
      refine hg.snoc (by dsimp only; omega) ⟨by simp; omega, ?_, ?_, ?_, ?_, ?_⟩
      · dsimp only; split <;> decide
      · dsimp only; split <;> decide
      · dsimp only; split <;> (intro e; simp at e)
      · dsimp only; split <;> (intro e; simp at e)
      · dsimp only; split <;> (intro e; simp at e)
theorem kindText_5 (t : List UInt8) (h : kindText t = 5) : t ∈ advL := by
  unfold kindText kindOf at h
  split at h
  · simp at h
  · split at h
    · assumption
    · split at h
      · simp at h
      · split at h <;> simp at h
theorem kindText_6 (t : List UInt8) (h : kindText t = 6) : t ∈ conL := by
  unfold kindText kindOf at h
  split at h
  · simp at h
  · split at h
    · simp at h
    · split at h
      · assumption
      · split at h <;> simp at h
theorem kindText_in (t : List UInt8) : kindText t = 0 ∨ (4 ≤ kindText t ∧ kindText t ≤ 7) := by
  unfold kindText kindOf
  (repeat' split) <;> first | exact .inl rfl | exact .inr (by decide)
theorem mark_good {r : List UInt8} {at_ : Nat} {ws : List W} {b : UInt8} {q : List UInt8} {x : Nat × List W} (hr : r = b :: q) (hg : Good at_ ws) (h : mark b r at_ ws = .ok x) : Good x.1 x.2 := by
  have h1 : 1 ≤ r.length := by subst hr; simp
  have hl : markLen r = 1 + span (fun c => c == 46 || c == 58) (r.drop 1) := rfl
  unfold mark at h
  split at h
  · cases h
    exact hg.snoc (by dsimp only; omega) ⟨by simp; omega, (by simp), (by simp), fun e => by simp at e, fun e => by simp at e, fun e => by simp at e⟩
  · split at h
    · cases h
      exact hg.snoc (by dsimp only; omega) ⟨by simp; omega, (by simp), (by simp), fun e => by simp at e, fun e => by simp at e, fun e => by simp at e⟩
    · split at h
      · cases h
        exact hg.snoc (by dsimp only; omega) ⟨by simp; omega, (by simp), (by simp), fun e => by simp at e, fun e => by simp at e, fun e => by simp at e⟩
      · split at h
        · cases h
          exact hg.snoc (by dsimp only; omega) ⟨by simp; omega, (by simp), (by simp), fun e => by simp at e, fun e => by simp at e, fun e => by simp at e⟩
        · split at h
          · cases h
          · split at h
            · cases h
            · rename_i hk
              cases h
              have hin := (kindText_in (r.take (markLen r))).resolve_left hk
              exact hg.snoc (by dsimp only; omega) ⟨by simp; omega, by dsimp only; omega, by dsimp only; omega, fun e => by dsimp only at e; omega, kindText_5 _, kindText_6 _⟩
theorem word_good {r : List UInt8} {at_ : Nat} {ws : List W} {b : UInt8} {q : List UInt8} {x : Nat × List W} (hr : r = b :: q) (hg : Good at_ ws) (h : word r at_ ws = .ok x) : Good x.1 x.2 := by
  subst hr
  unfold word at h
  dsimp only at h
  split at h
  · rename_i hc
    cases h
    obtain ⟨_, rfl, _⟩ := hc
    exact hg.snoc (by dsimp only; omega) ⟨by simp; omega, (by simp), (by simp), fun e => by simp at e, fun e => by simp at e, fun e => by simp at e⟩
  · split at h
    · rename_i hc; exact number_good rfl hc hg h
    · split at h
      · rename_i hc; exact name_good rfl hc hg h
      · exact mark_good rfl hg h
theorem Good.mono {m n : Nat} {ws : List W} (h : Good m ws) (hm : m ≤ n) : Good n ws := ⟨Nat.le_trans h.count hm, fun w hw => (h.word w hw).mono hm⟩
theorem cutF_good : ∀ (f : Nat) (s : List UInt8) (at_ : Nat) (ws vs : List W), at_ ≤ s.length → AtIn s.length ws → Good at_ ws → cutF f s at_ ws = .ok vs → Good s.length vs
  | 0, _, _, _, _, ha, _, hg, h => by cases h; exact hg.mono ha
  | f + 1, s, at_, ws, vs, ha, hi, hg, h => by
    unfold cutF at h
    split at h
    · cases h; exact hg.mono ha
    · rename_i b q e
      have hl : (s.drop at_).length = (b :: q).length := congrArg List.length e
      simp only [List.length_drop, List.length_cons] at hl
      split at h
      · exact cutF_good f s (at_ + 1) ws vs (by omega) hi (hg.mono (by omega)) h
      · split at h
        · cases h; exact hg.mono ha
        · have hf := word_fine (m := s.length) (r := b :: q) (at_ := at_) rfl (by simp only [List.length_cons]; omega) hi
          cases hw : word (b :: q) at_ ws with
          | bad c p => rw [hw] at h; cases h
          | ok x =>
            rw [hw] at h hf
            exact cutF_good f s x.1 x.2 vs hf.2.1 hf.2.2 (word_good rfl hg hw) h
theorem cut_good {s : List UInt8} {ws : List W} (h : cut s = .ok ws) : Good s.length ws := by
  unfold cut at h
  split at h
  · cases h
  · exact cutF_good _ s 0 [] ws (Nat.zero_le _) (fun w hw => by cases hw) ⟨Nat.le_refl _, fun w hw => by cases hw⟩ h
end Pz
end Go.Proofs.YtboondbognbnnaaGreatDoor
