/- Terms as plain data, and what the package term tells of them: no program in sight. What the package expand makes of a verb that may be is a verb that may be, not too great: in plain Lean. The noun of a verb that may be: a noun that may be, with at most six nodes for each of the verb's, and at most four times as deep. The noun of a verb that may be: by the kinds. -/
set_option linter.unusedVariables false
set_option linter.unusedSimpArgs false
namespace Go.Proofs.YtnnhbpgpkpbinaaGreat

/-- A term: its fields; a list of numbers for each of the two lists of Num; its kids. -/
inductive T where
  | mk (kind : Int) (text : ByteArray) (n : Int) (shape atoms : List Int) (kids : List T)

namespace T

def kind : T → Int | mk k _ _ _ _ _ => k
def text : T → ByteArray | mk _ s _ _ _ _ => s
def n : T → Int | mk _ _ n _ _ _ => n
def shape : T → List Int | mk _ _ _ s _ _ => s
def atoms : T → List Int | mk _ _ _ _ a _ => a
def kids : T → List T | mk _ _ _ _ _ l => l
section
variable (k : Int) (s : ByteArray) (m : Int) (sh a : List Int) (l : List T)
@[simp] theorem kind_mk : (mk k s m sh a l).kind = k := rfl
@[simp] theorem text_mk : (mk k s m sh a l).text = s := rfl
@[simp] theorem n_mk : (mk k s m sh a l).n = m := rfl
@[simp] theorem shape_mk : (mk k s m sh a l).shape = sh := rfl
@[simp] theorem atoms_mk : (mk k s m sh a l).atoms = a := rfl
@[simp] theorem kids_mk : (mk k s m sh a l).kids = l := rfl
end

mutual
def nodes : T → Nat
  | mk _ _ _ _ _ l => 1 + nodesL l
def nodesL : List T → Nat
  | [] => 0
  | t :: l => nodes t + nodesL l
end
mutual
def height : T → Nat
  | mk _ _ _ _ _ l => 1 + heightL l
def heightL : List T → Nat
  | [] => 0
  | t :: l => max (height t) (heightL l)
end

theorem ind {P : T → Prop} (h : ∀ k s n sh a l, (∀ t ∈ l, P t) → P (mk k s n sh a l)) (t : T) : P t := by
  refine T.rec (motive_1 := P) (motive_2 := fun l => ∀ t ∈ l, P t) (fun k s n sh a l ih => h k s n sh a l ih) ?_ ?_ t
  · intro t ht; cases ht
  · intro t l ht hl u hu
    cases hu with
    | head => exact ht
    | tail _ hu => exact hl u hu

theorem nodes_pos (t : T) : 1 ≤ t.nodes := by cases t; simp only [nodes]; omega
theorem height_pos (t : T) : 1 ≤ t.height := by cases t; simp only [height]; omega
theorem height_le_nodes (t : T) : t.height ≤ t.nodes := by
  refine T.rec (motive_1 := fun t => t.height ≤ t.nodes) (motive_2 := fun l => heightL l ≤ nodesL l) ?_ ?_ ?_ t
  · intro k s n sh a l ih; simp only [height, nodes]; omega
  · simp only [heightL, nodesL]; omega
  · intro t l ht hl; simp only [heightL, nodesL]; omega
theorem nodes_mem {l : List T} {t : T} (h : t ∈ l) : t.nodes ≤ nodesL l := by
  induction l with
  | nil => cases h
  | cons u l ih =>
    cases h with
    | head => simp only [nodesL]; omega
    | tail _ h => have := ih h; simp only [nodesL]; omega
theorem height_mem {l : List T} {t : T} (h : t ∈ l) : t.height ≤ heightL l := by
  induction l with
  | nil => cases h
  | cons u l ih =>
    cases h with
    | head => simp only [heightL]; omega
    | tail _ h => have := ih h; simp only [heightL]; omega

/-- so many nodes, so deep: not too great. -/
def fits (t : T) : Prop := t.nodes ≤ 4096 ∧ t.height ≤ 256
instance (t : T) : Decidable t.fits := inferInstanceAs (Decidable (_ ∧ _))

/-- what Size tells. -/
def sizeN (t : T) : Nat := if t.fits then t.nodes else 4097
def sizeD (t : T) : Nat := if t.fits then t.height else 257

/-- A term's class by its kind. -/
def cls (k : Int) : Int := if 1 ≤ k ∧ k ≤ 5 then 1 else if 10 ≤ k ∧ k ≤ 14 then 2 else if 20 ≤ k ∧ k ≤ 46 then 3 else 0

/-- a name's letters behind the first. -/
def inner (c : UInt8) : Bool :=
  let k : Int := c.toNat
  (decide (97 ≤ k) && decide (k ≤ 122)) || (decide (65 ≤ k) && decide (k ≤ 90)) || (decide (48 ≤ k) && decide (k ≤ 57))
/-- a name that begins with a letter from low to high. -/
def named (s : List UInt8) (low high : Int) : Bool :=
  match s with
  | [] => false
  | c :: r => decide (s.length ≤ 32) && decide (low ≤ (c.toNat : Int)) && decide ((c.toNat : Int) ≤ high) && r.all inner

/-- may an array be a KNum's? -/
def literal (sh at_ : List Int) : Bool :=
  match sh with
  | [] => at_.length == 1
  | [k] => decide (2 ≤ k) && decide (k ≤ 64) && decide ((at_.length : Int) = k)
  | _ => false
/-- may it be a VRank's? -/
def ranks (sh at_ : List Int) : Bool :=
  match sh with
  | [k] => decide (1 ≤ k) && decide (k ≤ 3) && decide ((at_.length : Int) = k) && at_.all fun n => n == 64 || (decide (-8 ≤ n) && decide (n ≤ 8))
  | _ => false

/-- the spellings of the primitives, in the order of their numbers. -/
def spells : List (List UInt8) :=
  [[43], [45], [42], [37], [124], [60, 46], [62, 46], [60], [62], [61], [126, 58], [60, 58], [62, 58], [43, 46], [42, 46], [43, 58], [42, 58], [45, 46], [45, 58], [94], [33],
   [35], [36], [44], [44, 46], [44, 58], [123], [123, 46], [125, 46], [123, 58], [125, 58], [124, 46], [124, 58], [105, 46], [101, 46], [126, 46], [47, 58], [92, 58], [35, 46], [35, 58], [91], [93], [73, 46]]
def isPrim (s : List UInt8) : Bool := spells.contains s

/-- are Text, N and Num as the kind says? -/
def fields (t : T) : Bool :=
  let k := t.kind
  let s := t.text.data.toList
  let text := if k = 2 ∨ k = 11 then named s 97 122 else if k = 20 then isPrim s else if k = 21 then named s 65 90 else s.isEmpty
  let n := if k = 23 then t.n == 1 || t.n == 2 else t.n == 0
  let num := if k = 1 then literal t.shape t.atoms else if k = 42 then ranks t.shape t.atoms else t.shape.isEmpty && t.atoms.isEmpty
  text && n && num

def operandK (k : Int) (s : List UInt8) : Bool := k == 1 || (k == 2 && s != [120] && s != [121])
def operand (t : T) : Bool := operandK t.kind t.text.data.toList

/-- the kids' classes, a letter each. -/
def pattern (k : Int) : List UInt8 :=
  if k = 3 then [118, 110] else if k = 4 then [118, 110, 110] else if k = 5 then [110, 43] else if k = 10 ∨ k = 11 then [110] else if k = 12 then [110, 98, 98]
  else if k = 13 then [110, 98] else if k = 14 then [115] else if k = 22 then [111] else if k = 23 then [98] else if k = 24 ∨ k = 25 ∨ k = 26 ∨ k = 27 ∨ k = 42 then [118]
  else if k = 39 then [111, 118] else if k = 40 ∨ k = 41 then [118, 111] else if k = 43 then [118, 43] else if k = 45 then [118, 118, 118]
  else if k = 1 ∨ k = 2 ∨ k = 20 ∨ k = 21 then [] else [118, 118]

def isOf (t : T) (c : UInt8) : Bool :=
  if c = 110 then cls t.kind == 1 else if c = 118 then cls t.kind == 3 else if c = 98 then t.kind == 14 else if c = 111 then operand t
  else cls t.kind == 2 && t.kind != 14

def allOf : List T → List UInt8 → Bool
  | [], [] => true
  | t :: l, c :: p => isOf t c && allOf l p
  | _, _ => false

/-- are the kids as the letters say? -/
def kidsFor (p : List UInt8) (l : List T) : Bool :=
  if p = [115] then l.all (isOf · 115)
  else if p = [110, 43] then decide (2 ≤ l.length) && decide (l.length ≤ 17) && l.all (isOf · 110)
  else if p = [118, 43] then decide (2 ≤ l.length) && decide (l.length ≤ 17) && l.all (isOf · 118)
  else allOf l p
/-- are the kids of the classes that the kind says? -/
def kidsOk (t : T) : Bool := kidsFor (pattern t.kind) t.kids

/-- a node alone -/
def node (t : T) (alone : Bool) : Bool :=
  cls t.kind != 0 && fields t && kidsOk t && !(alone && (t.kind == 2 || t.kind == 11) && t.text.data.toList == [120])
def under (t : T) (alone : Bool) : Bool := if t.kind = 23 then t.n == 1 else alone
mutual
def good : T → Bool → Bool
  | mk k s n sh a l, alone => node (mk k s n sh a l) alone && goodL l (under (mk k s n sh a l) alone)
def goodL : List T → Bool → Bool
  | [], _ => true
  | t :: l, alone => good t alone && goodL l alone
end

/-- what May tells. -/
def may (t : T) (class_ : Int) : Int :=
  if class_ ≠ 1 ∧ class_ ≠ 2 ∧ class_ ≠ 3 then 1
  else if ¬ t.fits then 2
  else if good t false = false then 33
  else if cls t.kind ≠ class_ then 5
  else 0

/- what the package expand makes -/
def txt (l : List UInt8) : ByteArray := ⟨l.toArray⟩
def nameT (l : List UInt8) : T := mk 2 (txt l) 0 [] [] []
def yT : T := nameT [121]
def leftT (v : Int) : T := if v = 2 then nameT [120] else yT
def monT (v e : T) : T := mk 3 (txt []) 0 [] [] [v, e]
def dyT (v l r : T) : T := mk 4 (txt []) 0 [] [] [v, l, r]
def defT (v : Int) (e : T) : T := mk 23 (txt []) v [] [] [mk 14 (txt []) 0 [] [] [mk 10 (txt []) 0 [] [] [e]]]

/-- does a verb of a kind and a text open in a valence? -/
def opensK (k : Int) (s : List UInt8) (v : Int) : Bool :=
  if k = 20 then s == [91] || s == [93]
  else if k = 31 ∨ k = 39 ∨ k = 40 then v == 1
  else k == 22 || k == 27 || k == 29 || k == 46 || k == 44 || k == 45 || k == 43 || k == 36 || k == 37
def opens (t : T) (v : Int) : Bool := opensK t.kind t.text.data.toList v

/-- v for others: itself, or the definition that says its noun (nw) in valence w. -/
def otherOf (u : T) (w : Int) (nw : T) : T := if u.kind = 20 ∨ opens u w = false then u else defT w nw
/-- the noun of a verb that opens, out of its kids and their nouns (nv in the valence, n1, n2 in 1 and 2). -/
def openOf (k : Int) (v : Int) (l nv n1 n2 : List T) : T :=
  let g (l : List T) (i : Nat) : T := l.getD i yT
  if k = 22 then g l 0
  else if k = 27 then dyT (otherOf (g l 0) 2 (g n2 0)) yT (leftT v)
  else if k = 29 ∨ k = 46 ∨ k = 31 then monT (otherOf (g l 0) 1 (g n1 0)) (g nv 1)
  else if k = 39 then dyT (otherOf (g l 1) 2 (g n2 1)) (g l 0) yT
  else if k = 40 then dyT (otherOf (g l 0) 2 (g n2 0)) yT (g l 1)
  else if k = 44 then dyT (otherOf (g l 0) 2 (g n2 0)) (leftT v) (g n1 1)
  else if k = 45 then dyT (otherOf (g l 1) 2 (g n2 1)) (g nv 0) (g nv 2)
  else if k = 43 then mk 5 (txt []) 0 [] [] nv
  else if k = 37 ∧ v = 2 then g nv 1
  else g nv 0
def nounOf (t : T) (v : Int) (nv n1 n2 : List T) : T :=
  if t.kind = 20 ∧ t.text.data.toList = [93] then yT
  else if t.kind = 20 ∧ t.text.data.toList = [91] then leftT v
  else if opens t v = true then openOf t.kind v t.kids nv n1 n2
  else if v = 2 then dyT t (nameT [120]) yT
  else monT t yT
mutual
def noun : T → Int → T
  | mk k s n sh a l, v => nounOf (mk k s n sh a l) v (nouns l v) (nouns l 1) (nouns l 2)
def nouns : List T → Int → List T
  | [], _ => []
  | t :: l, v => noun t v :: nouns l v
end
def other (u : T) (w : Int) : T := otherOf u w (noun u w)

theorem nouns_map (l : List T) (v : Int) : nouns l v = l.map (noun · v) := by
  induction l with
  | nil => simp [nouns]
  | cons t l ih => simp [nouns, ih]

/-- what Of answers: a term and an error. -/
def ofE (t : T) (v : Int) : Int :=
  if may t 3 ≠ 0 then may t 3 else if v ≠ 1 ∧ v ≠ 2 then 1 else if sizeN t > 320 ∨ sizeD t > 32 then 2 else 0
def zeroT : T := mk 0 (txt []) 0 [] [] []
def ofT (t : T) (v : Int) : T := if ofE t v = 0 then defT v (noun t v) else zeroT

end T
end Go.Proofs.YtnnhbpgpkpbinaaGreat

namespace Go.Proofs.YtnnhbpgpkpbinaaGreat
namespace T

theorem txt_list (l : List UInt8) : (txt l).data.toList = l := by simp [txt]
theorem good_mk (k s n sh a l al) : good (mk k s n sh a l) al = (node (mk k s n sh a l) al && goodL l (under (mk k s n sh a l) al)) := by simp [good]
theorem goodL_iff (l : List T) (al : Bool) : goodL l al = true ↔ ∀ t ∈ l, good t al = true := by
  induction l with
  | nil => simp [goodL]
  | cons t l ih => simp [goodL, ih]
theorem good_mono (t : T) : good t true = true → good t false = true := by
  refine T.ind (P := fun t => good t true = true → good t false = true) ?_ t
  intro k s n sh a l ih h
  rw [good_mk, Bool.and_eq_true] at h ⊢
  refine ⟨?_, ?_⟩
  · have h1 := h.1
    simp only [node, Bool.and_eq_true, Bool.true_and, Bool.false_and, Bool.not_false, and_true] at h1 ⊢
    exact h1.1
  · have h2 := h.2
    rw [goodL_iff] at h2 ⊢
    intro t ht
    have := h2 t ht
    simp only [under, kind] at this ⊢
    by_cases hk : k = 23
    · simp only [hk, if_true] at this ⊢; exact this
    · simp only [hk, if_false] at this ⊢; exact ih t ht this
theorem good_any (t : T) (h : good t true = true) (al : Bool) : good t al = true := by
  cases al
  · exact good_mono t h
  · exact h

/-- is it one of the letters' shapes? -/
theorem isOf_v (t : T) : isOf t 118 = true ↔ cls t.kind = 3 := by simp [isOf]
theorem isOf_o (t : T) : isOf t 111 = true ↔ operand t = true := by simp [isOf]
theorem isOf_b (t : T) : isOf t 98 = true ↔ t.kind = 14 := by simp [isOf]
theorem cls3 {k : Int} (h : cls k = 3) : 20 ≤ k ∧ k ≤ 46 := by
  unfold cls at h
  split at h
  · omega
  · split at h
    · omega
    · split at h
      · assumption
      · omega
theorem cls_of3 {k : Int} (h : 20 ≤ k ∧ k ≤ 46) : cls k = 3 := by
  unfold cls
  rw [if_neg (by omega), if_neg (by omega), if_pos h]

theorem allOf_nil {l : List T} (h : allOf l [] = true) : l = [] := by
  cases l with
  | nil => rfl
  | cons t l => simp [allOf] at h
theorem allOf_cons {l : List T} {c : UInt8} {p : List UInt8} (h : allOf l (c :: p) = true) : ∃ t r, l = t :: r ∧ isOf t c = true ∧ allOf r p = true := by
  cases l with
  | nil => simp [allOf] at h
  | cons t r => simp only [allOf, Bool.and_eq_true] at h; exact ⟨t, r, rfl, h.1, h.2⟩

theorem operand_good (t : T) (ho : operand t = true) (h : good t false = true) : good t true = true ∧ cls t.kind = 1 := by
  cases t with
  | mk k s n sh a l =>
    simp only [operand, operandK, kind, text, Bool.or_eq_true, Bool.and_eq_true, beq_iff_eq, bne_iff_ne] at ho
    have hk : k = 1 ∨ k = 2 := by rcases ho with h | h; exact .inl h; exact .inr h.1.1
    rw [good_mk, Bool.and_eq_true] at h
    have hn := h.1
    simp only [node, Bool.and_eq_true, Bool.false_and, Bool.not_false, and_true, kind, text] at hn
    have hl : l = [] := by
      have := hn.2
      rcases hk with rfl | rfl <;> simp only [kidsOk, kind, kids] at this <;> exact allOf_nil (by simpa [pattern, kidsFor] using this)
    subst hl
    refine ⟨?_, by rcases hk with rfl | rfl <;> simp [kind, cls]⟩
    rw [good_mk, Bool.and_eq_true]
    refine ⟨?_, by simp [goodL]⟩
    simp only [node, Bool.and_eq_true, Bool.true_and, kind, text]
    refine ⟨hn, ?_⟩
    rcases ho with rfl | ⟨⟨rfl, hx⟩, _⟩
    · simp
    · simp [hx]

theorem verb_pattern_fin : ∀ m : Fin 27, m.val ≠ 3 → ((pattern ((m.val + 20 : Nat) : Int)).all (fun c => c == 118 || c == 111) = true ∨ pattern ((m.val + 20 : Nat) : Int) = [118, 43]) := by decide
theorem verb_pattern {k : Int} (h : 20 ≤ k ∧ k ≤ 46) (hd : k ≠ 23) : (∀ c ∈ pattern k, c = 118 ∨ c = 111) ∨ pattern k = [118, 43] := by
  obtain ⟨m, rfl⟩ : ∃ m : Nat, k = ((m + 20 : Nat) : Int) := ⟨(k - 20).toNat, by omega⟩
  have := verb_pattern_fin ⟨m, by omega⟩ (by show m ≠ 3; omega)
  rcases this with h1 | h1
  · left
    intro c hc
    have := List.all_eq_true.1 h1 c hc
    simpa using this
  · exact .inr h1

/-- A verb that may be may be within a definition of one argument, too. -/
theorem verb_alone (t : T) : cls t.kind = 3 → good t false = true → good t true = true := by
  refine T.ind (P := fun t => cls t.kind = 3 → good t false = true → good t true = true) ?_ t
  intro k s n sh a l ih hc h
  have hk := cls3 hc
  simp only [kind] at hk
  rw [good_mk, Bool.and_eq_true] at h ⊢
  have hn := h.1
  simp only [node, Bool.and_eq_true, Bool.false_and, Bool.not_false, and_true, kind, text] at hn
  refine ⟨?_, ?_⟩
  · simp only [node, Bool.and_eq_true, Bool.true_and, kind, text]
    refine ⟨hn, ?_⟩
    have h2 : (k == 2) = false := by simp; omega
    have h11 : (k == 11) = false := by simp; omega
    simp [h2, h11]
  · have h2 := h.2
    simp only [under, kind] at h2 ⊢
    by_cases h23 : k = 23
    · simp only [h23, if_true] at h2 ⊢; exact h2
    · simp only [h23, if_false] at h2 ⊢
      rw [goodL_iff] at h2 ⊢
      have each : ∀ t ∈ l, isOf t 118 = true ∨ isOf t 111 = true := by
        have hp := hn.2
        simp only [kidsOk, kind, kids] at hp
        rcases verb_pattern hk h23 with hl | hpp
        · obtain ⟨p, hpp⟩ : ∃ p, pattern k = p := ⟨_, rfl⟩
          rw [hpp] at hp hl
          have n1 : p ≠ [115] := by rintro rfl; have := hl 115 (by simp); simp at this
          have n2 : p ≠ [110, 43] := by rintro rfl; have := hl 110 (by simp); simp at this
          have n3 : p ≠ [118, 43] := by rintro rfl; have := hl 43 (by simp); simp at this
          rw [kidsFor, if_neg n1, if_neg n2, if_neg n3] at hp
          clear n1 n2 n3 hpp h2 h hn ih hc
          induction p generalizing l with
          | nil => rw [allOf_nil hp]; simp
          | cons c p ihp =>
            obtain ⟨t, r, rfl, ht, hr⟩ := allOf_cons hp
            intro u hu
            cases hu with
            | head =>
              rcases hl c (by simp) with rfl | rfl
              · exact .inl ht
              · exact .inr ht
            | tail _ hu => exact ihp r (fun c hc => hl c (by simp [hc])) hr u hu
        · rw [hpp] at hp
          have hp' : (decide (2 ≤ l.length) && decide (l.length ≤ 17) && l.all (isOf · 118)) = true := hp
          simp only [Bool.and_eq_true, List.all_eq_true] at hp'
          intro t ht
          exact .inl (hp'.2 t ht)
      intro t ht
      rcases each t ht with hv | ho
      · exact ih t ht ((isOf_v t).1 hv) (h2 t ht)
      · exact (operand_good t ((isOf_o t).1 ho) (h2 t ht)).1
end T
end Go.Proofs.YtnnhbpgpkpbinaaGreat

namespace Go.Proofs.YtnnhbpgpkpbinaaGreat
namespace T

theorem good_y (al : Bool) : good yT al = true := by
  cases al <;> simp [yT, nameT, good_mk, goodL, node, fields, kidsOk, cls, txt_list, named, pattern, kidsFor, allOf] <;> decide
theorem good_x : good (nameT [120]) false = true := by
  simp [nameT, good_mk, goodL, node, fields, kidsOk, cls, txt_list, named, pattern, kidsFor, allOf] <;> decide
theorem good_left {v : Int} (hv : v = 1 ∨ v = 2) : good (leftT v) (v == 1) = true := by
  rcases hv with rfl | rfl
  · exact good_y _
  · exact good_x
theorem cls_left (v : Int) : cls (leftT v).kind = 1 := by unfold leftT; split <;> rfl
theorem left_small (v : Int) : (leftT v).nodes = 1 ∧ (leftT v).height = 1 := by
  unfold leftT; split <;> simp [yT, nameT, nodes, nodesL, height, heightL]
theorem y_small : yT.nodes = 1 ∧ yT.height = 1 := by simp [yT, nameT, nodes, nodesL, height, heightL]

theorem good_mon {v e : T} {al : Bool} (hv : good v al = true) (he : good e al = true) (cv : cls v.kind = 3) (ce : cls e.kind = 1) : good (monT v e) al = true := by
  rw [monT, good_mk, Bool.and_eq_true]
  refine ⟨?_, by simp [under, goodL, hv, he]⟩
  have h1 : fields (mk 3 (txt []) 0 [] [] [v, e]) = true := by simp [fields, txt_list]
  have h2 : kidsOk (mk 3 (txt []) 0 [] [] [v, e]) = true := by simp [kidsOk, pattern, kidsFor, allOf, isOf, cv, ce]
  simp only [node, h1, h2, kind_mk, text_mk]
  simp [cls]
theorem good_dy {v l r : T} {al : Bool} (hv : good v al = true) (hl : good l al = true) (hr : good r al = true) (cv : cls v.kind = 3) (cl : cls l.kind = 1) (cr : cls r.kind = 1) : good (dyT v l r) al = true := by
  rw [dyT, good_mk, Bool.and_eq_true]
  refine ⟨?_, by simp [under, goodL, hv, hl, hr]⟩
  have h1 : fields (mk 4 (txt []) 0 [] [] [v, l, r]) = true := by simp [fields, txt_list]
  have h2 : kidsOk (mk 4 (txt []) 0 [] [] [v, l, r]) = true := by simp [kidsOk, pattern, kidsFor, allOf, isOf, cv, cl, cr]
  simp only [node, h1, h2, kind_mk, text_mk]
  simp [cls]
theorem good_pick {l : List T} {al : Bool} (hl : ∀ t ∈ l, good t al = true ∧ cls t.kind = 1) (h2 : 2 ≤ l.length) (h17 : l.length ≤ 17) : good (mk 5 (txt []) 0 [] [] l) al = true := by
  rw [good_mk, Bool.and_eq_true]
  refine ⟨?_, ?_⟩
  · have h1 : fields (mk 5 (txt []) 0 [] [] l) = true := by simp [fields, txt_list]
    have h2 : kidsOk (mk 5 (txt []) 0 [] [] l) = true := by
      have e : kidsOk (mk 5 (txt []) 0 [] [] l) = (decide (2 ≤ l.length) && decide (l.length ≤ 17) && l.all (isOf · 110)) := rfl
      rw [e]
      simp only [h2, h17, decide_true, Bool.true_and, List.all_eq_true]
      intro t ht
      simp [isOf, (hl t ht).2]
    simp only [node, h1, h2, kind_mk, text_mk]
    simp [cls]
  · have e : under (mk 5 (txt []) 0 [] [] l) al = al := by simp [under]
    rw [e, goodL_iff]
    exact fun t ht => (hl t ht).1
theorem good_def {v : Int} {e : T} (hv : v = 1 ∨ v = 2) (he : good e (v == 1) = true) (ce : cls e.kind = 1) (al : Bool) : good (defT v e) al = true := by
  have hsay : good (mk 10 (txt []) 0 [] [] [e]) (v == 1) = true := by
    rw [good_mk, Bool.and_eq_true]
    refine ⟨?_, by simp [under, goodL, he]⟩
    have h1 : fields (mk 10 (txt []) 0 [] [] [e]) = true := by simp [fields, txt_list]
    have h2 : kidsOk (mk 10 (txt []) 0 [] [] [e]) = true := by simp [kidsOk, pattern, kidsFor, allOf, isOf, ce]
    simp only [node, h1, h2, kind_mk, text_mk]
    simp [cls]
  have hbody : good (mk 14 (txt []) 0 [] [] [mk 10 (txt []) 0 [] [] [e]]) (v == 1) = true := by
    rw [good_mk, Bool.and_eq_true]
    refine ⟨?_, by simp [under, goodL, hsay]⟩
    have h1 : fields (mk 14 (txt []) 0 [] [] [mk 10 (txt []) 0 [] [] [e]]) = true := by simp [fields, txt_list]
    have h2 : kidsOk (mk 14 (txt []) 0 [] [] [mk 10 (txt []) 0 [] [] [e]]) = true := by simp [kidsOk, pattern, kidsFor, isOf, cls]
    simp only [node, h1, h2, kind_mk, text_mk]
    simp [cls]
  rw [defT, good_mk, Bool.and_eq_true]
  refine ⟨?_, ?_⟩
  · have h1 : fields (mk 23 (txt []) v [] [] [mk 14 (txt []) 0 [] [] [mk 10 (txt []) 0 [] [] [e]]]) = true := by
      rcases hv with rfl | rfl <;> simp [fields, txt_list]
    have h2 : kidsOk (mk 23 (txt []) v [] [] [mk 14 (txt []) 0 [] [] [mk 10 (txt []) 0 [] [] [e]]]) = true := by simp [kidsOk, pattern, kidsFor, allOf, isOf]
    simp only [node, h1, h2, kind_mk, text_mk]
    simp [cls]
  · simpa [under, goodL] using hbody

/-- what is held of a verb's noun -/
def Okn (t u : T) (v : Int) : Prop := u.nodes ≤ 6 * t.nodes ∧ u.height ≤ 4 * t.height ∧ cls u.kind = 1 ∧ good u (v == 1) = true
/-- what is held of a verb as it stands for others -/
def Oko (t u : T) : Prop := u.nodes ≤ 6 * t.nodes + 3 ∧ u.height ≤ 4 * t.height + 3 ∧ cls u.kind = 3 ∧ good u true = true

theorem def_size (v : Int) (e : T) : (defT v e).nodes = e.nodes + 3 ∧ (defT v e).height = e.height + 3 := by
  simp only [defT, nodes, nodesL, height, heightL]; omega
theorem other_ok {u : T} {w : Int} {nw : T} (cu : cls u.kind = 3) (gu : good u false = true) (hw : w = 1 ∨ w = 2) (h : Okn u nw w) : Oko u (otherOf u w nw) := by
  unfold otherOf
  split
  · exact ⟨by omega, by omega, cu, verb_alone u cu gu⟩
  · have := def_size w nw
    obtain ⟨h1, h2, h3, h4⟩ := h
    exact ⟨by omega, by omega, rfl, good_def hw h4 h3 true⟩
theorem mon_size (v e : T) : (monT v e).nodes = 1 + (v.nodes + e.nodes) ∧ (monT v e).height = 1 + max v.height e.height := by
  simp only [monT, nodes, nodesL, height, heightL]; omega
theorem dy_size (v l r : T) : (dyT v l r).nodes = 1 + (v.nodes + (l.nodes + r.nodes)) ∧ (dyT v l r).height = 1 + max v.height (max l.height r.height) := by
  simp only [dyT, nodes, nodesL, height, heightL]; omega
end T
end Go.Proofs.YtnnhbpgpkpbinaaGreat

namespace Go.Proofs.YtnnhbpgpkpbinaaGreat
namespace T

theorem noun_mk (k s m sh a l v) : noun (mk k s m sh a l) v = nounOf (mk k s m sh a l) v (nouns l v) (nouns l 1) (nouns l 2) := by simp [noun]
theorem pattern_of {k : Int} (h : k = 22 ∨ k = 27 ∨ k = 29 ∨ k = 46 ∨ k = 31 ∨ k = 39 ∨ k = 40 ∨ k = 44 ∨ k = 45 ∨ k = 36 ∨ k = 37) :
    pattern k = if k = 22 then [111] else if k = 27 then [118] else if k = 39 then [111, 118] else if k = 40 then [118, 111] else if k = 45 then [118, 118, 118] else [118, 118] := by
  rcases h with rfl | rfl | rfl | rfl | rfl | rfl | rfl | rfl | rfl | rfl | rfl <;> rfl

theorem noun_cases (k s m sh a l) (v : Int) : noun (mk k s m sh a l) v =
    if k = 20 ∧ s.data.toList = [93] then yT
    else if k = 20 ∧ s.data.toList = [91] then leftT v
    else if opens (mk k s m sh a l) v = true then openOf k v l (nouns l v) (nouns l 1) (nouns l 2)
    else if v = 2 then dyT (mk k s m sh a l) (nameT [120]) yT else monT (mk k s m sh a l) yT := by rw [noun_mk]; rfl

/-- kids of a node that may be, by its pattern -/
theorem kids_one {l : List T} {c : UInt8} (h : kidsFor [c] l = true) (hc : c ≠ 115) : ∃ t, l = [t] ∧ isOf t c = true := by
  rw [kidsFor, if_neg (by simpa using hc), if_neg (by simp), if_neg (by simp)] at h
  obtain ⟨t, r, rfl, ht, hr⟩ := allOf_cons h
  rw [allOf_nil hr]
  exact ⟨t, rfl, ht⟩
theorem kids_two {l : List T} {c d : UInt8} (h : kidsFor [c, d] l = true) (hd : d ≠ 43) : ∃ t u, l = [t, u] ∧ isOf t c = true ∧ isOf u d = true := by
  rw [kidsFor, if_neg (by simp), if_neg (by simp [hd]), if_neg (by simp [hd])] at h
  obtain ⟨t, r, rfl, ht, hr⟩ := allOf_cons h
  obtain ⟨u, r, rfl, hu, hr⟩ := allOf_cons hr
  rw [allOf_nil hr]
  exact ⟨t, u, rfl, ht, hu⟩
theorem kids_three {l : List T} {c d e : UInt8} (h : kidsFor [c, d, e] l = true) : ∃ t u x, l = [t, u, x] ∧ isOf t c = true ∧ isOf u d = true ∧ isOf x e = true := by
  rw [kidsFor, if_neg (by simp), if_neg (by simp), if_neg (by simp)] at h
  obtain ⟨t, r, rfl, ht, hr⟩ := allOf_cons h
  obtain ⟨u, r, rfl, hu, hr⟩ := allOf_cons hr
  obtain ⟨x, r, rfl, hx, hr⟩ := allOf_cons hr
  rw [allOf_nil hr]
  exact ⟨t, u, x, rfl, ht, hu, hx⟩
theorem kids_many {l : List T} (h : kidsFor [118, 43] l = true) : 2 ≤ l.length ∧ l.length ≤ 17 ∧ ∀ t ∈ l, isOf t 118 = true := by
  have h' : (decide (2 ≤ l.length) && decide (l.length ≤ 17) && l.all (isOf · 118)) = true := h
  simp only [Bool.and_eq_true, List.all_eq_true, decide_eq_true_eq] at h'
  exact ⟨h'.1.1, h'.1.2, h'.2⟩

theorem okn_default (t : T) (v : Int) (hv : v = 1 ∨ v = 2) (ct : cls t.kind = 3) (gt : good t false = true) : Okn t (if v = 2 then dyT t (nameT [120]) yT else monT t yT) v := by
  have hn := nodes_pos t
  have hh := height_pos t
  have ga := verb_alone t ct gt
  rcases hv with rfl | rfl
  · rw [if_neg (by decide)]
    have hs := mon_size t yT
    have hy := y_small
    exact ⟨by omega, by omega, rfl, good_mon ga (good_y _) ct rfl⟩
  · rw [if_pos rfl]
    have hs := dy_size t (nameT [120]) yT
    have hy := y_small
    have hx := left_small 2
    have hx' : leftT 2 = nameT [120] := rfl
    rw [hx'] at hx
    exact ⟨by omega, by omega, rfl, good_dy gt good_x (good_y _) ct rfl rfl⟩
theorem nouns_sum {l : List T} {v : Int} (h : ∀ t ∈ l, Okn t (noun t v) v) : nodesL (nouns l v) ≤ 6 * nodesL l ∧ heightL (nouns l v) ≤ 4 * heightL l := by
  induction l with
  | nil => simp [nouns, nodesL, heightL]
  | cons t l ih =>
    have h1 := h t (by simp)
    have h2 := ih (fun u hu => h u (by simp [hu]))
    simp only [nouns, nodesL, heightL]
    exact ⟨by have := h1.1; omega, by have := h1.2.1; omega⟩

theorem noun_ok (t : T) : cls t.kind = 3 → good t false = true → ∀ v : Int, v = 1 ∨ v = 2 → Okn t (noun t v) v := by
  refine T.ind (P := fun t => cls t.kind = 3 → good t false = true → ∀ v : Int, v = 1 ∨ v = 2 → Okn t (noun t v) v) ?_ t
  intro k s m sh a l ih hc hg v hv
  have hg0 := hg
  rw [good_mk, Bool.and_eq_true] at hg
  have hn := hg.1
  simp only [node, Bool.and_eq_true, Bool.false_and, Bool.not_false, and_true, kind_mk, text_mk] at hn
  have hk2 : kidsFor (pattern k) l = true := hn.2
  have hgl := hg.2
  have g1 : (2 : Int) = 1 ∨ (2 : Int) = 2 := .inr rfl
  have g2 : (1 : Int) = 1 ∨ (1 : Int) = 2 := .inl rfl
  rw [noun_cases]
  have hy := y_small
  have hx := left_small v
  have hcx := cls_left v
  have hgx := good_left hv
  have hN : (mk k s m sh a l).nodes = 1 + nodesL l := by simp [nodes]
  have hH : (mk k s m sh a l).height = 1 + heightL l := by simp [height]
  split
  · exact ⟨by omega, by omega, rfl, good_y _⟩
  split
  · exact ⟨by omega, by omega, hcx, hgx⟩
  split
  case isFalse => exact okn_default _ v hv hc hg0
  rename_i hnr hnl ho
  -- a kind of the table
  have hk : k = 43 ∨ k = 22 ∨ k = 27 ∨ k = 29 ∨ k = 46 ∨ k = 31 ∨ k = 39 ∨ k = 40 ∨ k = 44 ∨ k = 45 ∨ k = 36 ∨ k = 37 := by
    have ho : opensK k s.data.toList v = true := ho
    unfold opensK at ho
    split at ho
    · rename_i h20
      simp only [Bool.or_eq_true, beq_iff_eq] at ho
      rcases ho with h | h
      · exact absurd ⟨h20, h⟩ hnl
      · exact absurd ⟨h20, h⟩ hnr
    · split at ho
      · omega
      · simp only [Bool.or_eq_true, beq_iff_eq] at ho
        omega
  have h23 : k ≠ 23 := by omega
  have hu : under (mk k s m sh a l) false = false := by simp [under, h23]
  rw [hu, goodL_iff] at hgl
  have vb : ∀ u ∈ l, isOf u 118 = true → cls u.kind = 3 ∧ good u false = true := fun u hu hi => ⟨(isOf_v u).1 hi, hgl u hu⟩
  have nok : ∀ u ∈ l, isOf u 118 = true → ∀ w : Int, w = 1 ∨ w = 2 → Okn u (noun u w) w := fun u hu hi w hw => ih u hu (vb u hu hi).1 (vb u hu hi).2 w hw
  have ook : ∀ u ∈ l, isOf u 118 = true → ∀ w : Int, w = 1 ∨ w = 2 → Oko u (otherOf u w (noun u w)) := fun u hu hi w hw => other_ok (vb u hu hi).1 (vb u hu hi).2 hw (nok u hu hi w hw)
  have opk : ∀ u ∈ l, isOf u 111 = true → cls u.kind = 1 ∧ good u true = true := fun u hu hi => (operand_good u ((isOf_o u).1 hi) (hgl u hu)).symm
  rcases hk with rfl | hk
  · -- agenda
    obtain ⟨h2, h17, hall⟩ := kids_many hk2
    have hs := nouns_sum (l := l) (v := v) (fun t ht => nok t ht (hall t ht) v hv)
    have e : openOf 43 v l (nouns l v) (nouns l 1) (nouns l 2) = mk 5 (txt []) 0 [] [] (nouns l v) := by simp [openOf]
    rw [e]
    refine ⟨by simp only [nodes]; omega, by simp only [height]; omega, rfl, good_pick ?_ (by simpa [nouns_map] using h2) (by simpa [nouns_map] using h17)⟩
    intro u hu'
    rw [nouns_map, List.mem_map] at hu'
    obtain ⟨t, ht, rfl⟩ := hu'
    have := nok t ht (hall t ht) v hv
    exact ⟨this.2.2.2, this.2.2.1⟩
  · rw [pattern_of hk] at hk2
    rcases hk with rfl | rfl | rfl | rfl | rfl | rfl | rfl | rfl | rfl | rfl | rfl
    all_goals simp only [if_true, Int.reduceEq, if_false] at hk2
    · -- const
      obtain ⟨t, rfl, ht⟩ := kids_one hk2 (by decide)
      obtain ⟨h1, h2⟩ := opk t (by simp) ht
      have e : openOf 22 v [t] (nouns [t] v) (nouns [t] 1) (nouns [t] 2) = t := by simp [openOf]
      rw [e]
      simp only [nodesL, heightL] at hN hH
      exact ⟨by omega, by omega, h1, good_any t h2 _⟩
    · -- swap
      obtain ⟨t, rfl, ht⟩ := kids_one hk2 (by decide)
      obtain ⟨h1, h2, h3, h4⟩ := ook t (by simp) ht 2 g1
      have e : openOf 27 v [t] (nouns [t] v) (nouns [t] 1) (nouns [t] 2) = dyT (otherOf t 2 (noun t 2)) yT (leftT v) := by simp [openOf, nouns]
      rw [e]
      have hs := dy_size (otherOf t 2 (noun t 2)) yT (leftT v)
      simp only [nodesL, heightL] at hN hH
      exact ⟨by omega, by omega, rfl, good_dy (good_any _ h4 _) (good_y _) hgx h3 rfl hcx⟩
    all_goals first
      | (obtain ⟨t, u, x, rfl, ht, hu', hx'⟩ := kids_three hk2
         obtain ⟨h1, h2, h3, h4⟩ := ook u (by simp) hu' 2 g1
         obtain ⟨p1, p2, p3, p4⟩ := nok t (by simp) ht v hv
         obtain ⟨q1, q2, q3, q4⟩ := nok x (by simp) hx' v hv
         have e : openOf 45 v [t, u, x] (nouns [t, u, x] v) (nouns [t, u, x] 1) (nouns [t, u, x] 2) = dyT (otherOf u 2 (noun u 2)) (noun t v) (noun x v) := by simp [openOf, nouns]
         rw [e]
         have hs := dy_size (otherOf u 2 (noun u 2)) (noun t v) (noun x v)
         simp only [nodesL, heightL] at hN hH
         exact ⟨by omega, by omega, rfl, good_dy (good_any _ h4 _) p4 q4 h3 p3 q3⟩)
      | skip
    all_goals obtain ⟨t, u, rfl, ht, hu'⟩ := kids_two hk2 (by decide)
    all_goals simp only [nodesL, heightL] at hN hH
    · -- at
      obtain ⟨h1, h2, h3, h4⟩ := ook t (by simp) ht 1 g2
      obtain ⟨p1, p2, p3, p4⟩ := nok u (by simp) hu' v hv
      have e : openOf 29 v [t, u] (nouns [t, u] v) (nouns [t, u] 1) (nouns [t, u] 2) = monT (otherOf t 1 (noun t 1)) (noun u v) := by simp [openOf, nouns]
      rw [e]
      have hs := mon_size (otherOf t 1 (noun t 1)) (noun u v)
      exact ⟨by omega, by omega, rfl, good_mon (good_any _ h4 _) p4 h3 p3⟩
    · obtain ⟨h1, h2, h3, h4⟩ := ook t (by simp) ht 1 g2
      obtain ⟨p1, p2, p3, p4⟩ := nok u (by simp) hu' v hv
      have e : openOf 46 v [t, u] (nouns [t, u] v) (nouns [t, u] 1) (nouns [t, u] 2) = monT (otherOf t 1 (noun t 1)) (noun u v) := by simp [openOf, nouns]
      rw [e]
      have hs := mon_size (otherOf t 1 (noun t 1)) (noun u v)
      exact ⟨by omega, by omega, rfl, good_mon (good_any _ h4 _) p4 h3 p3⟩
    · obtain ⟨h1, h2, h3, h4⟩ := ook t (by simp) ht 1 g2
      obtain ⟨p1, p2, p3, p4⟩ := nok u (by simp) hu' v hv
      have e : openOf 31 v [t, u] (nouns [t, u] v) (nouns [t, u] 1) (nouns [t, u] 2) = monT (otherOf t 1 (noun t 1)) (noun u v) := by simp [openOf, nouns]
      rw [e]
      have hs := mon_size (otherOf t 1 (noun t 1)) (noun u v)
      exact ⟨by omega, by omega, rfl, good_mon (good_any _ h4 _) p4 h3 p3⟩
    · -- bond, left
      obtain ⟨o1, o2⟩ := opk t (by simp) ht
      obtain ⟨h1, h2, h3, h4⟩ := ook u (by simp) hu' 2 g1
      have e : openOf 39 v [t, u] (nouns [t, u] v) (nouns [t, u] 1) (nouns [t, u] 2) = dyT (otherOf u 2 (noun u 2)) t yT := by simp [openOf, nouns]
      rw [e]
      have hs := dy_size (otherOf u 2 (noun u 2)) t yT
      exact ⟨by omega, by omega, rfl, good_dy (good_any _ h4 _) (good_any _ o2 _) (good_y _) h3 o1 rfl⟩
    · -- bond, right
      obtain ⟨o1, o2⟩ := opk u (by simp) hu'
      obtain ⟨h1, h2, h3, h4⟩ := ook t (by simp) ht 2 g1
      have e : openOf 40 v [t, u] (nouns [t, u] v) (nouns [t, u] 1) (nouns [t, u] 2) = dyT (otherOf t 2 (noun t 2)) yT u := by simp [openOf, nouns]
      rw [e]
      have hs := dy_size (otherOf t 2 (noun t 2)) yT u
      exact ⟨by omega, by omega, rfl, good_dy (good_any _ h4 _) (good_y _) (good_any _ o2 _) h3 rfl o1⟩
    · -- hook
      obtain ⟨h1, h2, h3, h4⟩ := ook t (by simp) ht 2 g1
      obtain ⟨p1, p2, p3, p4⟩ := nok u (by simp) hu' 1 g2
      have e : openOf 44 v [t, u] (nouns [t, u] v) (nouns [t, u] 1) (nouns [t, u] 2) = dyT (otherOf t 2 (noun t 2)) (leftT v) (noun u 1) := by simp [openOf, nouns]
      rw [e]
      have hs := dy_size (otherOf t 2 (noun t 2)) (leftT v) (noun u 1)
      exact ⟨by omega, by omega, rfl, good_dy (good_any _ h4 _) hgx (good_any _ p4 _) h3 hcx p3⟩
    · -- obverse
      obtain ⟨p1, p2, p3, p4⟩ := nok t (by simp) ht v hv
      have e : openOf 36 v [t, u] (nouns [t, u] v) (nouns [t, u] 1) (nouns [t, u] 2) = noun t v := by simp [openOf, nouns]
      rw [e]
      exact ⟨by omega, by omega, p3, p4⟩
    · -- both
      obtain ⟨p1, p2, p3, p4⟩ := nok t (by simp) ht v hv
      obtain ⟨q1, q2, q3, q4⟩ := nok u (by simp) hu' v hv
      have e : openOf 37 v [t, u] (nouns [t, u] v) (nouns [t, u] 1) (nouns [t, u] 2) = if v = 2 then noun u v else noun t v := by
        simp [openOf, nouns]
      rw [e]
      split
      · exact ⟨by omega, by omega, q3, q4⟩
      · exact ⟨by omega, by omega, p3, p4⟩

/-- WHAT THE LAW SAYS, in plain Lean. -/
theorem of_ok (t : T) (v : Int) (h : ofE t v = 0) : may (ofT t v) 3 = 0 ∧ (ofT t v).nodes < 6 * t.nodes + 4 := by
  have h' := h
  unfold ofE at h
  split at h
  · omega
  rename_i hm
  split at h
  · omega
  rename_i hv
  split at h
  · omega
  rename_i hz
  have hv' : v = 1 ∨ v = 2 := by omega
  have hm' : may t 3 = 0 := by omega
  unfold may at hm'
  split at hm'
  · omega
  split at hm'
  · omega
  rename_i hf
  split at hm'
  · omega
  rename_i hg
  split at hm'
  · omega
  rename_i hc
  have hf' : t.fits := by simpa using hf
  have hg' : good t false = true := by simpa using hg
  have hc' : cls t.kind = 3 := by simpa using hc
  have hsz : t.nodes ≤ 320 ∧ t.height ≤ 32 := by
    simp only [sizeN, sizeD, if_pos hf'] at hz
    omega
  obtain ⟨n1, n2, n3, n4⟩ := noun_ok t hc' hg' v hv'
  have e : ofT t v = defT v (noun t v) := by simp [ofT, h']
  rw [e]
  have hs := def_size v (noun t v)
  refine ⟨?_, by omega⟩
  unfold may
  have hfits : (defT v (noun t v)).fits := ⟨by omega, by omega⟩
  rw [if_neg (by omega), if_neg (by simpa using hfits), if_neg (by rw [good_def hv' n4 n3 false]; simp), if_neg (by simp [defT, cls])]
end T
end Go.Proofs.YtnnhbpgpkpbinaaGreat
