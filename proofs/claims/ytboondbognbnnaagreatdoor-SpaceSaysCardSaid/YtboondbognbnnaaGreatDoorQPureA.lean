/- Terms as plain data, and what the package term tells of them: no program in sight. Terms in memory: when six cells read as a term, below a block's number. What the package expand makes of a verb that may be is a verb that may be, not too great: in plain Lean. Terms in memory of their own: which blocks they hold. -/
import Derived.WalkKit
import Derived.Deep.Draws
import Derived.OwnWalk
import Derived.Maps.AppendAt
set_option linter.unusedVariables false
set_option linter.unusedSimpArgs false
namespace Go.Proofs.YtboondbognbnnaaGreatDoor

/-- A term: its fields; a list of numbers for each of the two lists of Num; its kids. -/
inductive T where
  | mk (kind : Int) (text : ByteArray) (n : Int) (shape atoms : List Int) (kids : List T)

namespace T

def kind : T → Int | mk k _ _ _ _ _ => k
def text : T → ByteArray | mk _ s _ _ _ _ => s
def n : T → Int | mk _ _ n _ _ _ => n
def shape : T → List Int | mk _ _ _ s _ _ => s
def atoms : T → List Int | mk _ _ _ _ a _ => a
def kids : T → List T | mk _ _ _ _ _ l => l
section
variable (k : Int) (s : ByteArray) (m : Int) (sh a : List Int) (l : List T)
@[simp] theorem kind_mk : (mk k s m sh a l).kind = k := rfl
@[simp] theorem text_mk : (mk k s m sh a l).text = s := rfl
@[simp] theorem n_mk : (mk k s m sh a l).n = m := rfl
@[simp] theorem shape_mk : (mk k s m sh a l).shape = sh := rfl
@[simp] theorem atoms_mk : (mk k s m sh a l).atoms = a := rfl
@[simp] theorem kids_mk : (mk k s m sh a l).kids = l := rfl
end

mutual
def nodes : T → Nat
  | mk _ _ _ _ _ l => 1 + nodesL l
def nodesL : List T → Nat
  | [] => 0
  | t :: l => nodes t + nodesL l
end
mutual
def height : T → Nat
  | mk _ _ _ _ _ l => 1 + heightL l
def heightL : List T → Nat
  | [] => 0
  | t :: l => max (height t) (heightL l)
end

theorem ind {P : T → Prop} (h : ∀ k s n sh a l, (∀ t ∈ l, P t) → P (mk k s n sh a l)) (t : T) : P t := by
  refine T.rec (motive_1 := P) (motive_2 := fun l => ∀ t ∈ l, P t) (fun k s n sh a l ih => h k s n sh a l ih) ?_ ?_ t
  · intro t ht; cases ht
  · intro t l ht hl u hu
    cases hu with
    | head => exact ht
    | tail _ hu => exact hl u hu

theorem nodes_pos (t : T) : 1 ≤ t.nodes := by cases t; simp only [nodes]; omega
theorem height_pos (t : T) : 1 ≤ t.height := by cases t; simp only [height]; omega
theorem height_le_nodes (t : T) : t.height ≤ t.nodes := by
  refine T.rec (motive_1 := fun t => t.height ≤ t.nodes) (motive_2 := fun l => heightL l ≤ nodesL l) ?_ ?_ ?_ t
  · intro k s n sh a l ih; simp only [height, nodes]; omega
  · simp only [heightL, nodesL]; omega
  · intro t l ht hl; simp only [heightL, nodesL]; omega
theorem nodes_mem {l : List T} {t : T} (h : t ∈ l) : t.nodes ≤ nodesL l := by
  induction l with
  | nil => cases h
  | cons u l ih =>
    cases h with
    | head => simp only [nodesL]; omega
    | tail _ h => have := ih h; simp only [nodesL]; omega
theorem height_mem {l : List T} {t : T} (h : t ∈ l) : t.height ≤ heightL l := by
  induction l with
  | nil => cases h
  | cons u l ih =>
    cases h with
    | head => simp only [heightL]; omega
    | tail _ h => have := ih h; simp only [heightL]; omega

/-- so many nodes, so deep: not too great. -/
def fits (t : T) : Prop := t.nodes ≤ 4096 ∧ t.height ≤ 256
instance (t : T) : Decidable t.fits := inferInstanceAs (Decidable (_ ∧ _))

/-- what Size tells. -/
def sizeN (t : T) : Nat := if t.fits then t.nodes else 4097
def sizeD (t : T) : Nat := if t.fits then t.height else 257

/-- A term's class by its kind. -/
def cls (k : Int) : Int := if 1 ≤ k ∧ k ≤ 5 then 1 else if 10 ≤ k ∧ k ≤ 14 then 2 else if 20 ≤ k ∧ k ≤ 46 then 3 else 0

/-- a name's letters behind the first. -/
def inner (c : UInt8) : Bool :=
  let k : Int := c.toNat
  (decide (97 ≤ k) && decide (k ≤ 122)) || (decide (65 ≤ k) && decide (k ≤ 90)) || (decide (48 ≤ k) && decide (k ≤ 57))
/-- a name that begins with a letter from low to high. -/
def named (s : List UInt8) (low high : Int) : Bool :=
  match s with
  | [] => false
  | c :: r => decide (s.length ≤ 32) && decide (low ≤ (c.toNat : Int)) && decide ((c.toNat : Int) ≤ high) && r.all inner

/-- may an array be a KNum's? -/
def literal (sh at_ : List Int) : Bool :=
  match sh with
  | [] => at_.length == 1
  | [k] => decide (2 ≤ k) && decide (k ≤ 64) && decide ((at_.length : Int) = k)
  | _ => false
/-- may it be a VRank's? -/
def ranks (sh at_ : List Int) : Bool :=
  match sh with
  | [k] => decide (1 ≤ k) && decide (k ≤ 3) && decide ((at_.length : Int) = k) && at_.all fun n => n == 64 || (decide (-8 ≤ n) && decide (n ≤ 8))
  | _ => false

/-- the spellings of the primitives, in the order of their numbers. -/
def spells : List (List UInt8) :=
  [[43], [45], [42], [37], [124], [60, 46], [62, 46], [60], [62], [61], [126, 58], [60, 58], [62, 58], [43, 46], [42, 46], [43, 58], [42, 58], [45, 46], [45, 58], [94], [33],
   [35], [36], [44], [44, 46], [44, 58], [123], [123, 46], [125, 46], [123, 58], [125, 58], [124, 46], [124, 58], [105, 46], [101, 46], [126, 46], [47, 58], [92, 58], [35, 46], [35, 58], [91], [93], [73, 46]]
def isPrim (s : List UInt8) : Bool := spells.contains s

/-- are Text, N and Num as the kind says? -/
def fields (t : T) : Bool :=
  let k := t.kind
  let s := t.text.data.toList
  let text := if k = 2 ∨ k = 11 then named s 97 122 else if k = 20 then isPrim s else if k = 21 then named s 65 90 else s.isEmpty
  let n := if k = 23 then t.n == 1 || t.n == 2 else t.n == 0
  let num := if k = 1 then literal t.shape t.atoms else if k = 42 then ranks t.shape t.atoms else t.shape.isEmpty && t.atoms.isEmpty
  text && n && num

def operandK (k : Int) (s : List UInt8) : Bool := k == 1 || (k == 2 && s != [120] && s != [121])
def operand (t : T) : Bool := operandK t.kind t.text.data.toList

/-- the kids' classes, a letter each. -/
def pattern (k : Int) : List UInt8 :=
  if k = 3 then [118, 110] else if k = 4 then [118, 110, 110] else if k = 5 then [110, 43] else if k = 10 ∨ k = 11 then [110] else if k = 12 then [110, 98, 98]
  else if k = 13 then [110, 98] else if k = 14 then [115] else if k = 22 then [111] else if k = 23 then [98] else if k = 24 ∨ k = 25 ∨ k = 26 ∨ k = 27 ∨ k = 42 then [118]
  else if k = 39 then [111, 118] else if k = 40 ∨ k = 41 then [118, 111] else if k = 43 then [118, 43] else if k = 45 then [118, 118, 118]
  else if k = 1 ∨ k = 2 ∨ k = 20 ∨ k = 21 then [] else [118, 118]

def isOf (t : T) (c : UInt8) : Bool :=
  if c = 110 then cls t.kind == 1 else if c = 118 then cls t.kind == 3 else if c = 98 then t.kind == 14 else if c = 111 then operand t
  else cls t.kind == 2 && t.kind != 14

def allOf : List T → List UInt8 → Bool
  | [], [] => true
  | t :: l, c :: p => isOf t c && allOf l p
  | _, _ => false

/-- are the kids as the letters say? -/
def kidsFor (p : List UInt8) (l : List T) : Bool :=
  if p = [115] then l.all (isOf · 115)
  else if p = [110, 43] then decide (2 ≤ l.length) && decide (l.length ≤ 17) && l.all (isOf · 110)
  else if p = [118, 43] then decide (2 ≤ l.length) && decide (l.length ≤ 17) && l.all (isOf · 118)
  else allOf l p
/-- are the kids of the classes that the kind says? -/
def kidsOk (t : T) : Bool := kidsFor (pattern t.kind) t.kids

/-- a node alone -/
def node (t : T) (alone : Bool) : Bool :=
  cls t.kind != 0 && fields t && kidsOk t && !(alone && (t.kind == 2 || t.kind == 11) && t.text.data.toList == [120])
def under (t : T) (alone : Bool) : Bool := if t.kind = 23 then t.n == 1 else alone
mutual
def good : T → Bool → Bool
  | mk k s n sh a l, alone => node (mk k s n sh a l) alone && goodL l (under (mk k s n sh a l) alone)
def goodL : List T → Bool → Bool
  | [], _ => true
  | t :: l, alone => good t alone && goodL l alone
end

/-- what May tells. -/
def may (t : T) (class_ : Int) : Int :=
  if class_ ≠ 1 ∧ class_ ≠ 2 ∧ class_ ≠ 3 then 1
  else if ¬ t.fits then 2
  else if good t false = false then 33
  else if cls t.kind ≠ class_ then 5
  else 0

/- what the package expand makes -/
def txt (l : List UInt8) : ByteArray := ⟨l.toArray⟩
def nameT (l : List UInt8) : T := mk 2 (txt l) 0 [] [] []
def yT : T := nameT [121]
def leftT (v : Int) : T := if v = 2 then nameT [120] else yT
def monT (v e : T) : T := mk 3 (txt []) 0 [] [] [v, e]
def dyT (v l r : T) : T := mk 4 (txt []) 0 [] [] [v, l, r]
def defT (v : Int) (e : T) : T := mk 23 (txt []) v [] [] [mk 14 (txt []) 0 [] [] [mk 10 (txt []) 0 [] [] [e]]]

/-- does a verb of a kind and a text open in a valence? -/
def opensK (k : Int) (s : List UInt8) (v : Int) : Bool :=
  if k = 20 then s == [91] || s == [93]
  else if k = 31 ∨ k = 39 ∨ k = 40 then v == 1
  else k == 22 || k == 27 || k == 29 || k == 46 || k == 44 || k == 45 || k == 43 || k == 36 || k == 37
def opens (t : T) (v : Int) : Bool := opensK t.kind t.text.data.toList v

/-- v for others: itself, or the definition that says its noun (nw) in valence w. -/
def otherOf (u : T) (w : Int) (nw : T) : T := if u.kind = 20 ∨ opens u w = false then u else defT w nw
/-- the noun of a verb that opens, out of its kids and their nouns (nv in the valence, n1, n2 in 1 and 2). -/
def openOf (k : Int) (v : Int) (l nv n1 n2 : List T) : T :=
  let g (l : List T) (i : Nat) : T := l.getD i yT
  if k = 22 then g l 0
  else if k = 27 then dyT (otherOf (g l 0) 2 (g n2 0)) yT (leftT v)
  else if k = 29 ∨ k = 46 ∨ k = 31 then monT (otherOf (g l 0) 1 (g n1 0)) (g nv 1)
  else if k = 39 then dyT (otherOf (g l 1) 2 (g n2 1)) (g l 0) yT
  else if k = 40 then dyT (otherOf (g l 0) 2 (g n2 0)) yT (g l 1)
  else if k = 44 then dyT (otherOf (g l 0) 2 (g n2 0)) (leftT v) (g n1 1)
  else if k = 45 then dyT (otherOf (g l 1) 2 (g n2 1)) (g nv 0) (g nv 2)
  else if k = 43 then mk 5 (txt []) 0 [] [] nv
  else if k = 37 ∧ v = 2 then g nv 1
  else g nv 0
def nounOf (t : T) (v : Int) (nv n1 n2 : List T) : T :=
  if t.kind = 20 ∧ t.text.data.toList = [93] then yT
  else if t.kind = 20 ∧ t.text.data.toList = [91] then leftT v
  else if opens t v = true then openOf t.kind v t.kids nv n1 n2
  else if v = 2 then dyT t (nameT [120]) yT
  else monT t yT
mutual
def noun : T → Int → T
  | mk k s n sh a l, v => nounOf (mk k s n sh a l) v (nouns l v) (nouns l 1) (nouns l 2)
def nouns : List T → Int → List T
  | [], _ => []
  | t :: l, v => noun t v :: nouns l v
end
def other (u : T) (w : Int) : T := otherOf u w (noun u w)

theorem nouns_map (l : List T) (v : Int) : nouns l v = l.map (noun · v) := by
  induction l with
  | nil => simp [nouns]
  | cons t l ih => simp [nouns, ih]

/-- what Of answers: a term and an error. -/
def ofE (t : T) (v : Int) : Int :=
  if may t 3 ≠ 0 then may t 3 else if v ≠ 1 ∧ v ≠ 2 then 1 else if sizeN t > 320 ∨ sizeD t > 32 then 2 else 0
def zeroT : T := mk 0 (txt []) 0 [] [] []
def ofT (t : T) (v : Int) : T := if ofE t v = 0 then defT v (noun t v) else zeroT

end T
end Go.Proofs.YtboondbognbnnaaGreatDoor

namespace Go.Proofs.YtboondbognbnnaaGreatDoor
open Go.RowKit

theorem below_drewN {B : Nat} {a w : World} (h : Below B a w) (n : Nat) : Below B a (w.drewN n) := ⟨h.os, h.tape, h.output, h.size, h.block⟩

/-- A term's six cells, as they stand in memory or in a value. -/
structure TV where
  kind : Int
  text : ByteArray
  n : Int
  sa : Option Addr
  sl : Nat
  sc : Nat
  aa : Option Addr
  al : Nat
  ac : Nat
  ka : Option Addr
  kl : Nat
  kc : Nat
def TV.cells (x : TV) : Array Value := #[.int .i64 x.kind, .string x.text, .int .i64 x.n, .slice x.sa x.sl x.sc, .slice x.aa x.al x.ac, .slice x.ka x.kl x.kc]
def TV.val (x : TV) : Value := .agg x.cells

/-- The bounds that every reading has: lengths within capacities and the reach, numbers within 64 bits. -/
structure Wee (x : TV) : Prop where
  k0 : -9223372036854775808 ≤ x.kind
  k1 : x.kind ≤ 9223372036854775807
  n0 : -9223372036854775808 ≤ x.n
  n1 : x.n ≤ 9223372036854775807
  ts : x.text.size ≤ 140737488355328
  s0 : x.sl ≤ x.sc
  a0 : x.al ≤ x.ac
  l0 : x.kl ≤ x.kc
  s1 : x.sl ≤ 17592186044416
  a1 : x.al ≤ 17592186044416
  l1 : x.kl ≤ 2199023255552
  s2 : x.sc ≤ maxLen
  a2 : x.ac ≤ maxLen
  l2 : x.kc ≤ maxLen

/-- The six cells lie at a place. -/
structure At (w : World) (b o : Nat) (x : TV) : Prop where
  c0 : w.cell? ⟨b, o, none⟩ = some (.int .i64 x.kind)
  c1 : w.cell? ⟨b, o + 1, none⟩ = some (.string x.text)
  c2 : w.cell? ⟨b, o + 2, none⟩ = some (.int .i64 x.n)
  c3 : w.cell? ⟨b, o + 3, none⟩ = some (.slice x.sa x.sl x.sc)
  c4 : w.cell? ⟨b, o + 4, none⟩ = some (.slice x.aa x.al x.ac)
  c5 : w.cell? ⟨b, o + 5, none⟩ = some (.slice x.ka x.kl x.kc)

/-- w' holds below block B what w held. -/
def Keeps (B : Nat) (w w' : World) : Prop := ∀ b o, b < B → w'.cell? ⟨b, o, none⟩ = w.cell? ⟨b, o, none⟩
theorem Keeps.refl (B : Nat) (w : World) : Keeps B w w := fun _ _ _ => rfl
theorem Keeps.trans {B : Nat} {a b c : World} (h : Keeps B a b) (k : Keeps B b c) : Keeps B a c := fun x o hx => (k x o hx).trans (h x o hx)
theorem Keeps.mono {B B' : Nat} {a b : World} (h : Keeps B a b) (hB : B' ≤ B) : Keeps B' a b := fun x o hx => h x o (by omega)
theorem Keeps.of_below {B B' : Nat} {a b : World} (h : Below B a b) (hB : B' ≤ B) : Keeps B' a b := fun x o hx => h.cell (p := ⟨x, o, none⟩) (show x < B by omega)
theorem Keeps.of_grown {B : Nat} {a b : World} {row : Option Nat} (h : a.grownBy b row) (hB : B ≤ a.heap.size) (hr : ∀ g, row = some g → B ≤ g) : Keeps B a b := fun x o hx =>
  World.cell?_of_block (a := ⟨x, o, none⟩) (h.block x (by omega) (fun e => by have := hr x e.symm; omega))

theorem At.keep {B b o : Nat} {x : TV} {w w' : World} (h : At w b o x) (hb : b < B) (hk : Keeps B w w') : At w' b o x :=
  ⟨(hk b _ hb).trans h.c0, (hk b _ hb).trans h.c1, (hk b _ hb).trans h.c2, (hk b _ hb).trans h.c3, (hk b _ hb).trans h.c4, (hk b _ hb).trans h.c5⟩

/-- A list of numbers lies where a slice says, below block B. -/
def Ints (w : World) (B : Nat) (A : Option Addr) (len : Nat) (xs : List Int) : Prop :=
  xs.length = len ∧ (0 < len → ∃ b o, A = some ⟨b, o, none⟩ ∧ b < B ∧ ∀ (i : Nat) (v : Int), xs[i]? = some v → w.cell? ⟨b, o + i, none⟩ = some (.int .i64 v))
theorem Ints.keep {B len : Nat} {A : Option Addr} {xs : List Int} {w w' : World} (h : Ints w B A len xs) (hk : Keeps B w w') : Ints w' B A len xs :=
  ⟨h.1, fun hl => by
    obtain ⟨b, o, e, hb, hc⟩ := h.2 hl
    exact ⟨b, o, e, hb, fun i v hv => (hk b _ hb).trans (hc i v hv)⟩⟩
theorem Ints.mono {B B' len : Nat} {A : Option Addr} {xs : List Int} {w : World} (h : Ints w B A len xs) (hB : B ≤ B') : Ints w B' A len xs :=
  ⟨h.1, fun hl => by
    obtain ⟨b, o, e, hb, hc⟩ := h.2 hl
    exact ⟨b, o, e, by omega, hc⟩⟩
theorem Ints.nil (w : World) (B : Nat) (A : Option Addr) : Ints w B A 0 [] := ⟨rfl, fun h => absurd h (by omega)⟩

mutual
/-- Six cells read as a term, all lists below block B. -/
def Rep (w : World) (B : Nat) : T → TV → Prop
  | .mk k s n sh a l, x => Wee x ∧ x.kind = k ∧ x.text = s ∧ x.n = n ∧ Ints w B x.sa x.sl sh ∧ Ints w B x.aa x.al a ∧ x.kl = l.length ∧ RepL w B l x.ka 0
def RepL (w : World) (B : Nat) : List T → Option Addr → Nat → Prop
  | [], _, _ => True
  | t :: l, A, i => (∃ b o x, A = some ⟨b, o, none⟩ ∧ b < B ∧ At w b (o + i * 6) x ∧ Rep w B t x) ∧ RepL w B l A (i + 1)
end

theorem RepL_iff (w : World) (B : Nat) (l : List T) (A : Option Addr) (i : Nat) :
    RepL w B l A i ↔ ∀ (j : Nat) (t : T), l[j]? = some t → ∃ b o x, A = some ⟨b, o, none⟩ ∧ b < B ∧ At w b (o + (i + j) * 6) x ∧ Rep w B t x := by
  induction l generalizing i with
  | nil => simp [RepL]
  | cons t l ih =>
    simp only [RepL, ih]
    constructor
    · rintro ⟨h0, h1⟩ j u hu
      cases j with
      | zero => simp at hu; subst hu; exact h0
      | succ j =>
        have := h1 j u (by simpa using hu)
        rwa [show i + 1 + j = i + (j + 1) from by omega] at this
    · intro h
      refine ⟨h 0 t (by simp), fun j u hu => ?_⟩
      have := h (j + 1) u (by simpa using hu)
      rwa [show i + (j + 1) = i + 1 + j from by omega] at this

theorem Rep_iff (w : World) (B : Nat) (t : T) (x : TV) : Rep w B t x ↔
    Wee x ∧ x.kind = t.kind ∧ x.text = t.text ∧ x.n = t.n ∧ Ints w B x.sa x.sl t.shape ∧ Ints w B x.aa x.al t.atoms ∧ x.kl = t.kids.length ∧
      ∀ (j : Nat) (u : T), t.kids[j]? = some u → ∃ b o y, x.ka = some ⟨b, o, none⟩ ∧ b < B ∧ At w b (o + j * 6) y ∧ Rep w B u y := by
  cases t with
  | mk k s n sh a l =>
    simp only [Rep, RepL_iff, T.kind_mk, T.text_mk, T.n_mk, T.shape_mk, T.atoms_mk, T.kids_mk, Nat.zero_add]

theorem Rep.keep {B : Nat} {w w' : World} (hk : Keeps B w w') (t : T) : ∀ x, Rep w B t x → Rep w' B t x := by
  refine T.ind (P := fun t => ∀ x, Rep w B t x → Rep w' B t x) ?_ t
  intro k s n sh a l ih x h
  rw [Rep_iff] at h ⊢
  obtain ⟨h0, h1, h2, h3, h4, h5, h6, h7⟩ := h
  refine ⟨h0, h1, h2, h3, h4.keep hk, h5.keep hk, h6, fun j u hu => ?_⟩
  obtain ⟨b, o, y, e, hb, hat, hr⟩ := h7 j u hu
  exact ⟨b, o, y, e, hb, hat.keep hb hk, ih u (List.mem_of_getElem? hu) y hr⟩
theorem Rep.mono {B B' : Nat} {w : World} (hB : B ≤ B') (t : T) : ∀ x, Rep w B t x → Rep w B' t x := by
  refine T.ind (P := fun t => ∀ x, Rep w B t x → Rep w B' t x) ?_ t
  intro k s n sh a l ih x h
  rw [Rep_iff] at h ⊢
  obtain ⟨h0, h1, h2, h3, h4, h5, h6, h7⟩ := h
  refine ⟨h0, h1, h2, h3, h4.mono hB, h5.mono hB, h6, fun j u hu => ?_⟩
  obtain ⟨b, o, y, e, hb, hat, hr⟩ := h7 j u hu
  exact ⟨b, o, y, e, by omega, hat, ih u (List.mem_of_getElem? hu) y hr⟩
theorem Rep.below {B B' : Nat} {w w' : World} {t : T} {x : TV} (h : Rep w B t x) (hb : Below B' w w') (hB : B ≤ B') : Rep w' B t x := Rep.keep (Keeps.of_below hb hB) t x h
theorem Rep.kid {B : Nat} {w : World} {t : T} {x : TV} (h : Rep w B t x) {j : Nat} {u : T} (hj : t.kids[j]? = some u) : ∃ b o y, x.ka = some ⟨b, o, none⟩ ∧ b < B ∧ At w b (o + j * 6) y ∧ Rep w B u y :=
  ((Rep_iff w B t x).1 h).2.2.2.2.2.2.2 j u hj
theorem Rep.wee {B : Nat} {w : World} {t : T} {x : TV} (h : Rep w B t x) : Wee x := ((Rep_iff w B t x).1 h).1
theorem Rep.kl {B : Nat} {w : World} {t : T} {x : TV} (h : Rep w B t x) : x.kl = t.kids.length := ((Rep_iff w B t x).1 h).2.2.2.2.2.2.1
theorem Rep.kind {B : Nat} {w : World} {t : T} {x : TV} (h : Rep w B t x) : x.kind = t.kind := ((Rep_iff w B t x).1 h).2.1
theorem Rep.text {B : Nat} {w : World} {t : T} {x : TV} (h : Rep w B t x) : x.text = t.text := ((Rep_iff w B t x).1 h).2.2.1
theorem Rep.n {B : Nat} {w : World} {t : T} {x : TV} (h : Rep w B t x) : x.n = t.n := ((Rep_iff w B t x).1 h).2.2.2.1
theorem Rep.shape {B : Nat} {w : World} {t : T} {x : TV} (h : Rep w B t x) : Ints w B x.sa x.sl t.shape := ((Rep_iff w B t x).1 h).2.2.2.2.1
theorem Rep.atoms {B : Nat} {w : World} {t : T} {x : TV} (h : Rep w B t x) : Ints w B x.aa x.al t.atoms := ((Rep_iff w B t x).1 h).2.2.2.2.2.1
end Go.Proofs.YtboondbognbnnaaGreatDoor

namespace Go.Proofs.YtboondbognbnnaaGreatDoor
namespace T

theorem txt_list (l : List UInt8) : (txt l).data.toList = l := by simp [txt]
theorem good_mk (k s n sh a l al) : good (mk k s n sh a l) al = (node (mk k s n sh a l) al && goodL l (under (mk k s n sh a l) al)) := by simp [good]
theorem goodL_iff (l : List T) (al : Bool) : goodL l al = true ↔ ∀ t ∈ l, good t al = true := by
  induction l with
  | nil => simp [goodL]
  | cons t l ih => simp [goodL, ih]
theorem good_mono (t : T) : good t true = true → good t false = true := by
  refine T.ind (P := fun t => good t true = true → good t false = true) ?_ t
  intro k s n sh a l ih h
  rw [good_mk, Bool.and_eq_true] at h ⊢
  refine ⟨?_, ?_⟩
  · have h1 := h.1
    simp only [node, Bool.and_eq_true, Bool.true_and, Bool.false_and, Bool.not_false, and_true] at h1 ⊢
    exact h1.1
  · have h2 := h.2
    rw [goodL_iff] at h2 ⊢
    intro t ht
    have := h2 t ht
    simp only [under, kind] at this ⊢
    by_cases hk : k = 23
    · simp only [hk, if_true] at this ⊢; exact this
    · simp only [hk, if_false] at this ⊢; exact ih t ht this
theorem good_any (t : T) (h : good t true = true) (al : Bool) : good t al = true := by
  cases al
  · exact good_mono t h
  · exact h

/-- is it one of the letters' shapes? -/
theorem isOf_v (t : T) : isOf t 118 = true ↔ cls t.kind = 3 := by simp [isOf]
theorem isOf_o (t : T) : isOf t 111 = true ↔ operand t = true := by simp [isOf]
theorem isOf_b (t : T) : isOf t 98 = true ↔ t.kind = 14 := by simp [isOf]
theorem cls3 {k : Int} (h : cls k = 3) : 20 ≤ k ∧ k ≤ 46 := by
  unfold cls at h
  split at h
  · omega
  · split at h
    · omega
    · split at h
      · assumption
      · omega
theorem cls_of3 {k : Int} (h : 20 ≤ k ∧ k ≤ 46) : cls k = 3 := by
  unfold cls
  rw [if_neg (by omega), if_neg (by omega), if_pos h]

theorem allOf_nil {l : List T} (h : allOf l [] = true) : l = [] := by
  cases l with
  | nil => rfl
  | cons t l => simp [allOf] at h
theorem allOf_cons {l : List T} {c : UInt8} {p : List UInt8} (h : allOf l (c :: p) = true) : ∃ t r, l = t :: r ∧ isOf t c = true ∧ allOf r p = true := by
  cases l with
  | nil => simp [allOf] at h
  | cons t r => simp only [allOf, Bool.and_eq_true] at h; exact ⟨t, r, rfl, h.1, h.2⟩

theorem operand_good (t : T) (ho : operand t = true) (h : good t false = true) : good t true = true ∧ cls t.kind = 1 := by
  cases t with
  | mk k s n sh a l =>
    simp only [operand, operandK, kind, text, Bool.or_eq_true, Bool.and_eq_true, beq_iff_eq, bne_iff_ne] at ho
    have hk : k = 1 ∨ k = 2 := by rcases ho with h | h; exact .inl h; exact .inr h.1.1
    rw [good_mk, Bool.and_eq_true] at h
    have hn := h.1
    simp only [node, Bool.and_eq_true, Bool.false_and, Bool.not_false, and_true, kind, text] at hn
    have hl : l = [] := by
      have := hn.2
      rcases hk with rfl | rfl <;> simp only [kidsOk, kind, kids] at this <;> exact allOf_nil (by simpa [pattern, kidsFor] using this)
    subst hl
    refine ⟨?_, by rcases hk with rfl | rfl <;> simp [kind, cls]⟩
    rw [good_mk, Bool.and_eq_true]
    refine ⟨?_, by simp [goodL]⟩
    simp only [node, Bool.and_eq_true, Bool.true_and, kind, text]
    refine ⟨hn, ?_⟩
    rcases ho with rfl | ⟨⟨rfl, hx⟩, _⟩
    · simp
    · simp [hx]

theorem verb_pattern_fin : ∀ m : Fin 27, m.val ≠ 3 → ((pattern ((m.val + 20 : Nat) : Int)).all (fun c => c == 118 || c == 111) = true ∨ pattern ((m.val + 20 : Nat) : Int) = [118, 43]) := by decide
theorem verb_pattern {k : Int} (h : 20 ≤ k ∧ k ≤ 46) (hd : k ≠ 23) : (∀ c ∈ pattern k, c = 118 ∨ c = 111) ∨ pattern k = [118, 43] := by
  obtain ⟨m, rfl⟩ : ∃ m : Nat, k = ((m + 20 : Nat) : Int) := ⟨(k - 20).toNat, by omega⟩
  have := verb_pattern_fin ⟨m, by omega⟩ (by show m ≠ 3; omega)
  rcases this with h1 | h1
  · left
    intro c hc
    have := List.all_eq_true.1 h1 c hc
    simpa using this
  · exact .inr h1

/-- A verb that may be may be within a definition of one argument, too. -/
theorem verb_alone (t : T) : cls t.kind = 3 → good t false = true → good t true = true := by
  refine T.ind (P := fun t => cls t.kind = 3 → good t false = true → good t true = true) ?_ t
  intro k s n sh a l ih hc h
  have hk := cls3 hc
  simp only [kind] at hk
  rw [good_mk, Bool.and_eq_true] at h ⊢
  have hn := h.1
  simp only [node, Bool.and_eq_true, Bool.false_and, Bool.not_false, and_true, kind, text] at hn
  refine ⟨?_, ?_⟩
  · simp only [node, Bool.and_eq_true, Bool.true_and, kind, text]
    refine ⟨hn, ?_⟩
    have h2 : (k == 2) = false := by simp; omega
    have h11 : (k == 11) = false := by simp; omega
    simp [h2, h11]
  · have h2 := h.2
    simp only [under, kind] at h2 ⊢
    by_cases h23 : k = 23
    · simp only [h23, if_true] at h2 ⊢; exact h2
    · simp only [h23, if_false] at h2 ⊢
      rw [goodL_iff] at h2 ⊢
      have each : ∀ t ∈ l, isOf t 118 = true ∨ isOf t 111 = true := by
        have hp := hn.2
        simp only [kidsOk, kind, kids] at hp
        rcases verb_pattern hk h23 with hl | hpp
        · obtain ⟨p, hpp⟩ : ∃ p, pattern k = p := ⟨_, rfl⟩
          rw [hpp] at hp hl
          have n1 : p ≠ [115] := by rintro rfl; have := hl 115 (by simp); simp at this
          have n2 : p ≠ [110, 43] := by rintro rfl; have := hl 110 (by simp); simp at this
          have n3 : p ≠ [118, 43] := by rintro rfl; have := hl 43 (by simp); simp at this
          rw [kidsFor, if_neg n1, if_neg n2, if_neg n3] at hp
          clear n1 n2 n3 hpp h2 h hn ih hc
          induction p generalizing l with
          | nil => rw [allOf_nil hp]; simp
          | cons c p ihp =>
            obtain ⟨t, r, rfl, ht, hr⟩ := allOf_cons hp
            intro u hu
            cases hu with
            | head =>
              rcases hl c (by simp) with rfl | rfl
              · exact .inl ht
              · exact .inr ht
            | tail _ hu => exact ihp r (fun c hc => hl c (by simp [hc])) hr u hu
        · rw [hpp] at hp
          have hp' : (decide (2 ≤ l.length) && decide (l.length ≤ 17) && l.all (isOf · 118)) = true := hp
          simp only [Bool.and_eq_true, List.all_eq_true] at hp'
          intro t ht
          exact .inl (hp'.2 t ht)
      intro t ht
      rcases each t ht with hv | ho
      · exact ih t ht ((isOf_v t).1 hv) (h2 t ht)
      · exact (operand_good t ((isOf_o t).1 ho) (h2 t ht)).1
end T
end Go.Proofs.YtboondbognbnnaaGreatDoor

namespace Go.Proofs.YtboondbognbnnaaGreatDoor
open Go.RowKit

/-- a slice of elements of so many cells: of no capacity, or at the head of a block of its own. -/
def OwnB (w : World) (ty size : Nat) (A : Option Addr) (len cap : Nat) (F : List Nat) : Prop :=
  (len = 0 ∧ cap = 0 ∧ F = []) ∨ ∃ b cur, A = some ⟨b, 0, none⟩ ∧ F = [b] ∧ w.heap[b]? = some (.cells cur ty (0, 0)) ∧ len ≤ cap ∧ cap ≤ maxLen ∧ cap * size ≤ cur.size
/-- a list of numbers in a block of its own -/
def OwnI (w : World) (ty : Nat) (A : Option Addr) (len cap : Nat) (xs : List Int) (F : List Nat) : Prop :=
  xs.length = len ∧ OwnB w ty 1 A len cap F ∧ ∀ b, A = some ⟨b, 0, none⟩ → ∀ (i : Nat) (v : Int), xs[i]? = some v → w.cell? ⟨b, i, none⟩ = some (.int .i64 v)

mutual
/-- Six cells read as a term that holds the blocks of a list. -/
def Own (w : World) : T → TV → List Nat → Prop
  | .mk k s n sh a l, x, F => Wee x ∧ x.kind = k ∧ x.text = s ∧ x.n = n ∧ x.kl = l.length ∧
    ∃ F1 F2 F3 F4, F = F1 ++ F2 ++ F3 ++ F4 ∧ OwnI w 3 x.sa x.sl x.sc sh F1 ∧ OwnI w 2 x.aa x.al x.ac a F2 ∧ OwnB w 29 6 x.ka x.kl x.kc F3 ∧ OwnL w l x.ka 0 F4
def OwnL (w : World) : List T → Option Addr → Nat → List Nat → Prop
  | [], _, _, F => F = []
  | t :: l, A, i, F => ∃ F1 F2, F = F1 ++ F2 ∧ (∃ b x, A = some ⟨b, 0, none⟩ ∧ At w b (i * 6) x ∧ Own w t x F1) ∧ OwnL w l A (i + 1) F2
end

theorem OwnB.kept {w w' : World} {ty size : Nat} {A : Option Addr} {len cap : Nat} {F : List Nat} (h : OwnB w ty size A len cap F) (hk : ∀ b ∈ F, w'.heap[b]? = w.heap[b]?) : OwnB w' ty size A len cap F := by
  rcases h with h | ⟨b, cur, h1, h2, h3, h4⟩
  · exact .inl h
  · exact .inr ⟨b, cur, h1, h2, (hk b (by simp [h2])).trans h3, h4⟩
theorem OwnB.block {w : World} {ty size : Nat} {A : Option Addr} {len cap : Nat} {F : List Nat} (h : OwnB w ty size A len cap F) (hl : 0 < len) : ∃ b, A = some ⟨b, 0, none⟩ ∧ F = [b] := by
  rcases h with h | ⟨b, cur, h1, h2, _⟩
  · omega
  · exact ⟨b, h1, h2⟩
theorem cell_of_heap {w w' : World} {b o : Nat} (h : w'.heap[b]? = w.heap[b]?) : w'.cell? ⟨b, o, none⟩ = w.cell? ⟨b, o, none⟩ := World.cell?_of_block (a := ⟨b, o, none⟩) h
theorem OwnI.kept {w w' : World} {ty : Nat} {A : Option Addr} {len cap : Nat} {xs : List Int} {F : List Nat} (h : OwnI w ty A len cap xs F) (hk : ∀ b ∈ F, w'.heap[b]? = w.heap[b]?) : OwnI w' ty A len cap xs F := by
  obtain ⟨h1, h2, h3⟩ := h
  refine ⟨h1, h2.kept hk, fun b hb i v hv => ?_⟩
  have hlt := (List.getElem?_eq_some_iff.1 hv).1
  obtain ⟨b', e, hF⟩ := h2.block (by omega)
  rw [hb] at e
  cases e
  rw [cell_of_heap (hk b (by simp [hF]))]
  exact h3 b hb i v hv
theorem At.kept {w w' : World} {b o : Nat} {x : TV} (h : At w b o x) (hk : w'.heap[b]? = w.heap[b]?) : At w' b o x :=
  ⟨(cell_of_heap hk).trans h.c0, (cell_of_heap hk).trans h.c1, (cell_of_heap hk).trans h.c2, (cell_of_heap hk).trans h.c3, (cell_of_heap hk).trans h.c4, (cell_of_heap hk).trans h.c5⟩

theorem Own_kids {w w' : World} (l : List T) (ih : ∀ t ∈ l, ∀ x F, Own w t x F → (∀ b ∈ F, w'.heap[b]? = w.heap[b]?) → Own w' t x F) (A : Option Addr) (hA : ∀ b, A = some ⟨b, 0, none⟩ → l ≠ [] → w'.heap[b]? = w.heap[b]?) :
    ∀ (i : Nat) (F : List Nat), OwnL w l A i F → (∀ b ∈ F, w'.heap[b]? = w.heap[b]?) → OwnL w' l A i F := by
  induction l with
  | nil => exact fun _ _ h _ => h
  | cons t l ihl =>
    intro i F h hk
    obtain ⟨F1, F2, rfl, ⟨b, x, hb, hat, ho⟩, hr⟩ := h
    refine ⟨F1, F2, rfl, ⟨b, x, hb, hat.kept (hA b hb (by simp)), ih t (by simp) x F1 ho (fun c hc => hk c (by simp [hc]))⟩, ?_⟩
    exact ihl (fun u hu => ih u (by simp [hu])) (fun c hc _ => hA c hc (by simp)) (i + 1) F2 hr (fun c hc => hk c (by simp [hc]))

/-- what a term holds unchanged, the term is -/
theorem Own.kept {w w' : World} (t : T) : ∀ (x : TV) (F : List Nat), Own w t x F → (∀ b ∈ F, w'.heap[b]? = w.heap[b]?) → Own w' t x F := by
  refine T.ind (P := fun t => ∀ (x : TV) (F : List Nat), Own w t x F → (∀ b ∈ F, w'.heap[b]? = w.heap[b]?) → Own w' t x F) ?_ t
  intro k s n sh a l ih x F h hk
  simp only [Own] at h ⊢
  obtain ⟨h1, h2, h3, h4, h5, F1, F2, F3, F4, rfl, h6, h7, h8, h9⟩ := h
  refine ⟨h1, h2, h3, h4, h5, F1, F2, F3, F4, rfl, h6.kept (fun b hb => hk b (by simp [hb])), h7.kept (fun b hb => hk b (by simp [hb])), h8.kept (fun b hb => hk b (by simp [hb])), ?_⟩
  refine Own_kids l ih x.ka (fun b hb hl => ?_) 0 F4 h9 (fun b hb => hk b (by simp [hb]))
  have hpos : 0 < x.kl := by rw [h5]; exact List.length_pos_iff.2 hl
  obtain ⟨b', e, hF⟩ := h8.block hpos
  rw [hb] at e
  cases e
  exact hk b (by simp [hF])

theorem OwnI.ints {w : World} {ty : Nat} {A : Option Addr} {len cap : Nat} {xs : List Int} {F : List Nat} {B : Nat} (h : OwnI w ty A len cap xs F) (hF : ∀ b ∈ F, b < B) : Ints w B A len xs := by
  obtain ⟨h1, h2, h3⟩ := h
  refine ⟨h1, fun hl => ?_⟩
  obtain ⟨b, e, hb⟩ := h2.block hl
  exact ⟨b, 0, e, hF b (by simp [hb]), fun i v hv => by rw [Nat.zero_add]; exact h3 b e i v hv⟩
theorem OwnL_rep {w : World} {B : Nat} (l : List T) (ih : ∀ t ∈ l, ∀ x F, Own w t x F → (∀ b ∈ F, b < B) → Rep w B t x) (A : Option Addr) (hA : ∀ b, A = some ⟨b, 0, none⟩ → l ≠ [] → b < B) :
    ∀ (i : Nat) (F : List Nat), OwnL w l A i F → (∀ b ∈ F, b < B) → RepL w B l A i := by
  induction l with
  | nil => exact fun _ _ _ _ => trivial
  | cons t l ihl =>
    intro i F h hk
    obtain ⟨F1, F2, rfl, ⟨b, x, hb, hat, ho⟩, hr⟩ := h
    refine ⟨⟨b, 0, x, hb, hA b hb (by simp), by rw [Nat.zero_add]; exact hat, ih t (by simp) x F1 ho (fun c hc => hk c (by simp [hc]))⟩, ?_⟩
    exact ihl (fun u hu => ih u (by simp [hu])) (fun c hc _ => hA c hc (by simp)) (i + 1) F2 hr (fun c hc => hk c (by simp [hc]))
/-- a term of its own reads as the term -/
theorem Own.rep {w : World} {B : Nat} (t : T) : ∀ (x : TV) (F : List Nat), Own w t x F → (∀ b ∈ F, b < B) → Rep w B t x := by
  refine T.ind (P := fun t => ∀ (x : TV) (F : List Nat), Own w t x F → (∀ b ∈ F, b < B) → Rep w B t x) ?_ t
  intro k s n sh a l ih x F h hk
  simp only [Own] at h
  obtain ⟨h1, h2, h3, h4, h5, F1, F2, F3, F4, rfl, h6, h7, h8, h9⟩ := h
  refine ⟨h1, h2, h3, h4, h6.ints (fun b hb => hk b (by simp [hb])), h7.ints (fun b hb => hk b (by simp [hb])), h5, ?_⟩
  refine OwnL_rep l ih x.ka (fun b hb hl => ?_) 0 F4 h9 (fun b hb => hk b (by simp [hb]))
  have hpos : 0 < x.kl := by rw [h5]; exact List.length_pos_iff.2 hl
  obtain ⟨b', e, hF⟩ := h8.block hpos
  rw [hb] at e
  cases e
  exact hk b (by simp [hF])

/-- blocks from lo up to hi, no two alike -/
structure Fresh (lo hi : Nat) (F : List Nat) : Prop where
  nodup : F.Nodup
  lo : ∀ b ∈ F, lo ≤ b
  hi : ∀ b ∈ F, b < hi
theorem Fresh.nil (lo hi : Nat) : Fresh lo hi [] := ⟨List.nodup_nil, by simp, by simp⟩
theorem Fresh.one {lo hi b : Nat} (h1 : lo ≤ b) (h2 : b < hi) : Fresh lo hi [b] := ⟨by simp, by simpa using h1, by simpa using h2⟩
theorem Fresh.app {a b c : Nat} {F G : List Nat} (h : Fresh a b F) (k : Fresh b c G) (hab : a ≤ b) (hbc : b ≤ c) : Fresh a c (F ++ G) :=
  ⟨List.nodup_append.2 ⟨h.nodup, k.nodup, fun x hx y hy e => by have := h.hi x hx; have := k.lo y hy; omega⟩,
   fun x hx => by rcases List.mem_append.1 hx with hx | hx; exact h.lo x hx; have := k.lo x hx; omega,
   fun x hx => by rcases List.mem_append.1 hx with hx | hx; have := h.hi x hx; omega; exact k.hi x hx⟩
theorem Fresh.mono {a b a' b' : Nat} {F : List Nat} (h : Fresh a b F) (h1 : a' ≤ a) (h2 : b ≤ b') : Fresh a' b' F :=
  ⟨h.nodup, fun x hx => Nat.le_trans h1 (h.lo x hx), fun x hx => Nat.lt_of_lt_of_le (h.hi x hx) h2⟩
theorem Fresh.perm {a b : Nat} {F G : List Nat} (h : Fresh a b F) (p : F.Perm G) : Fresh a b G :=
  ⟨p.nodup_iff.1 h.nodup, fun x hx => h.lo x (p.mem_iff.2 hx), fun x hx => h.hi x (p.mem_iff.2 hx)⟩
theorem Own.below {w w' : World} {t : T} {x : TV} {F : List Nat} {lo hi B : Nat} (h : Own w t x F) (hf : Fresh lo hi F) (hb : Below B w w') (hB : hi ≤ B) : Own w' t x F :=
  Own.kept t x F h (fun b hb' => hb.block b (by have := hf.hi b hb'; omega))
end Go.Proofs.YtboondbognbnnaaGreatDoor
