/- Terms that the law has laid: each list in a block of its own, marks behind it. The law's own functions: smear. -/
import Derived.Test.YtnnhbpgpkpbinaaGreatMTwinA
import Derived.Test.YtnnhbpgpkpbinaaGreatMExpB
set_option linter.unusedVariables false
set_option linter.unusedSimpArgs false
namespace Go.Proofs.YtnnhbpgpkpbinaaGreat
open Go.RowKit

/-- a list of numbers at the head of a block, two marks behind it -/
structure MarkI (w : World) (ty : Nat) (A : Option Addr) (len cap : Nat) (xs : List Int) (m1 m2 : Int) (b : Nat) : Prop where
  lens : xs.length = len
  adr : A = some ⟨b, 0, none⟩
  room : len + 2 ≤ cap
  max : cap ≤ maxLen
  blk : ∃ cur, w.heap[b]? = some (.cells cur ty (0, 0)) ∧ cap ≤ cur.size
  at_ : ∀ (i : Nat) (v : Int), (xs ++ [m1, m2])[i]? = some v → w.cell? ⟨b, i, none⟩ = some (.int .i64 v)
def markTV (k : Int) : TV := ⟨k, ⟨#[]⟩, 0, none, 0, 0, none, 0, 0, none, 0, 0⟩
/-- a block of terms, and room behind them -/
structure MarkK (w : World) (A : Option Addr) (len cap b : Nat) : Prop where
  adr : A = some ⟨b, 0, none⟩
  room : len + 2 ≤ cap
  max : cap ≤ maxLen
  blk : ∃ cur, w.heap[b]? = some (.cells cur 29 (0, 0)) ∧ cap * 6 ≤ cur.size
  m1 : At w b (len * 6) (markTV (-75))
  m2 : At w b ((len + 1) * 6) (markTV (-76))

mutual
/-- Six cells read as a term that was laid, in the blocks of a list. -/
def Laid (w : World) : T → TV → List Nat → Prop
  | .mk k s n sh a l, x, F => Wee x ∧ x.kind = k ∧ x.text = s ∧ x.n = n ∧ x.kl = l.length ∧
    ∃ b1 b2 b3 F4, F = b1 :: b2 :: b3 :: F4 ∧ MarkI w 3 x.sa x.sl x.sc sh (-71) (-72) b1 ∧ MarkI w 2 x.aa x.al x.ac a (-73) (-74) b2 ∧ MarkK w x.ka x.kl x.kc b3 ∧ LaidL w l b3 0 F4
def LaidL (w : World) : List T → Nat → Nat → List Nat → Prop
  | [], _, _, F => F = []
  | t :: l, b, i, F => ∃ F1 F2, F = F1 ++ F2 ∧ (∃ x, At w b (i * 6) x ∧ Laid w t x F1) ∧ LaidL w l b (i + 1) F2
end

theorem MarkI.kept {w w' : World} {ty : Nat} {A : Option Addr} {len cap : Nat} {xs : List Int} {m1 m2 : Int} {b : Nat} (h : MarkI w ty A len cap xs m1 m2 b) (hk : w'.heap[b]? = w.heap[b]?) : MarkI w' ty A len cap xs m1 m2 b := by
  obtain ⟨h1, h2, h3, h4, ⟨cur, h5, h6⟩, h7⟩ := h
  exact ⟨h1, h2, h3, h4, ⟨cur, hk.trans h5, h6⟩, fun i v hv => (cell_of_heap hk).trans (h7 i v hv)⟩
theorem MarkK.kept {w w' : World} {A : Option Addr} {len cap b : Nat} (h : MarkK w A len cap b) (hk : w'.heap[b]? = w.heap[b]?) : MarkK w' A len cap b := by
  obtain ⟨h1, h2, h3, ⟨cur, h4, h5⟩, h6, h7⟩ := h
  exact ⟨h1, h2, h3, ⟨cur, hk.trans h4, h5⟩, h6.kept hk, h7.kept hk⟩
theorem LaidL.keptAll {w w' : World} (l : List T) (ih : ∀ t ∈ l, ∀ x F, Laid w t x F → (∀ b ∈ F, w'.heap[b]? = w.heap[b]?) → Laid w' t x F) (b : Nat) (hb : l ≠ [] → w'.heap[b]? = w.heap[b]?) :
    ∀ (i : Nat) (F : List Nat), LaidL w l b i F → (∀ b ∈ F, w'.heap[b]? = w.heap[b]?) → LaidL w' l b i F := by
  induction l with
  | nil => exact fun _ _ h _ => h
  | cons t l ihl =>
    intro i F h hk
    obtain ⟨F1, F2, rfl, ⟨x, hat, ho⟩, hr⟩ := h
    refine ⟨F1, F2, rfl, ⟨x, hat.kept (hb (by simp)), ih t (by simp) x F1 ho (fun c hc => hk c (by simp [hc]))⟩, ?_⟩
    exact ihl (fun u hu => ih u (by simp [hu])) (fun _ => hb (by simp)) (i + 1) F2 hr (fun c hc => hk c (by simp [hc]))
theorem Laid.kept {w w' : World} (t : T) : ∀ (x : TV) (F : List Nat), Laid w t x F → (∀ b ∈ F, w'.heap[b]? = w.heap[b]?) → Laid w' t x F := by
  refine T.ind (P := fun t => ∀ (x : TV) (F : List Nat), Laid w t x F → (∀ b ∈ F, w'.heap[b]? = w.heap[b]?) → Laid w' t x F) ?_ t
  intro k s n sh a l ih x F h hk
  simp only [Laid] at h ⊢
  obtain ⟨h1, h2, h3, h4, h5, b1, b2, b3, F4, rfl, h6, h7, h8, h9⟩ := h
  refine ⟨h1, h2, h3, h4, h5, b1, b2, b3, F4, rfl, h6.kept (hk b1 (by simp)), h7.kept (hk b2 (by simp)), h8.kept (hk b3 (by simp)), ?_⟩
  exact LaidL.keptAll l ih b3 (fun _ => hk b3 (by simp)) 0 F4 h9 (fun b hb => hk b (by simp [hb]))
theorem LaidL.kept {w w' : World} {l : List T} {b i : Nat} {F : List Nat} (h : LaidL w l b i F) (hb : w'.heap[b]? = w.heap[b]?) (hk : ∀ b ∈ F, w'.heap[b]? = w.heap[b]?) : LaidL w' l b i F :=
  LaidL.keptAll l (fun t _ x F => Laid.kept t x F) b (fun _ => hb) i F h hk
theorem MarkI.ints {w : World} {ty : Nat} {A : Option Addr} {len cap : Nat} {xs : List Int} {m1 m2 : Int} {b B : Nat} (h : MarkI w ty A len cap xs m1 m2 b) (hB : b < B) : Ints w B A len xs :=
  ⟨h.lens, fun _ => ⟨b, 0, h.adr, hB, fun i v hv => by
    rw [Nat.zero_add]
    exact h.at_ i v (by rw [List.getElem?_append_left (List.getElem?_eq_some_iff.1 hv).1]; exact hv)⟩⟩
theorem LaidL.rep {w : World} {B : Nat} (l : List T) (ih : ∀ t ∈ l, ∀ x F, Laid w t x F → (∀ b ∈ F, b < B) → Rep w B t x) (b : Nat) (hb : b < B) :
    ∀ (i : Nat) (F : List Nat), LaidL w l b i F → (∀ b ∈ F, b < B) → RepL w B l (some ⟨b, 0, none⟩) i := by
  induction l with
  | nil => exact fun _ _ _ _ => trivial
  | cons t l ihl =>
    intro i F h hk
    obtain ⟨F1, F2, rfl, ⟨x, hat, ho⟩, hr⟩ := h
    refine ⟨⟨b, 0, x, rfl, hb, by rw [Nat.zero_add]; exact hat, ih t (by simp) x F1 ho (fun c hc => hk c (by simp [hc]))⟩, ?_⟩
    exact ihl (fun u hu => ih u (by simp [hu])) (i + 1) F2 hr (fun c hc => hk c (by simp [hc]))
theorem Laid.rep {w : World} {B : Nat} (t : T) : ∀ (x : TV) (F : List Nat), Laid w t x F → (∀ b ∈ F, b < B) → Rep w B t x := by
  refine T.ind (P := fun t => ∀ (x : TV) (F : List Nat), Laid w t x F → (∀ b ∈ F, b < B) → Rep w B t x) ?_ t
  intro k s n sh a l ih x F h hk
  simp only [Laid] at h
  obtain ⟨h1, h2, h3, h4, h5, b1, b2, b3, F4, rfl, h6, h7, h8, h9⟩ := h
  refine ⟨h1, h2, h3, h4, h6.ints (hk b1 (by simp)), h7.ints (hk b2 (by simp)), h5, ?_⟩
  rw [h8.adr]
  exact LaidL.rep l ih b3 (hk b3 (by simp)) 0 F4 h9 (fun b hb => hk b (by simp [hb]))
/-- the kid at a place, and what lies behind it -/
theorem LaidL.get {w : World} {b : Nat} : ∀ {l : List T} {i : Nat} {F : List Nat}, LaidL w l b i F → ∀ {j : Nat} {u : T}, l[j]? = some u → ∃ Fa Fj Fb y, F = Fa ++ (Fj ++ Fb) ∧ At w b ((i + j) * 6) y ∧ Laid w u y Fj ∧ LaidL w (l.drop (j + 1)) b (i + j + 1) Fb
  | t :: l, i, F, h, 0, u, hj => by
    obtain ⟨F1, F2, rfl, ⟨x, hat, ho⟩, hr⟩ := h
    simp at hj
    subst hj
    exact ⟨[], F1, F2, x, rfl, hat, ho, hr⟩
  | t :: l, i, F, h, j + 1, u, hj => by
    obtain ⟨F1, F2, rfl, ⟨x, hat, ho⟩, hr⟩ := h
    obtain ⟨Fa, Fj, Fb, y, rfl, h1, h2, h3⟩ := LaidL.get hr (j := j) (by simpa using hj)
    refine ⟨F1 ++ Fa, Fj, Fb, y, by simp, ?_, h2, ?_⟩
    · rwa [show i + (j + 1) = i + 1 + j from by omega]
    · rw [show i + (j + 1) + 1 = i + 1 + j + 1 from by omega]; exact h3
  | [], _, _, _, _, _, hj => by simp at hj

/-- all but the blocks of a list is as it was -/
structure Outside (F : List Nat) (w w' : World) : Prop where
  os : w'.os = w.os
  tape : w'.tape = w.tape
  output : w'.output = w.output
  size : w.heap.size ≤ w'.heap.size
  block : ∀ b, b < w.heap.size → b ∉ F → w'.heap[b]? = w.heap[b]?
theorem Outside.refl (F : List Nat) (w : World) : Outside F w w := ⟨rfl, rfl, rfl, Nat.le_refl _, fun _ _ _ => rfl⟩
theorem Outside.of_below {F : List Nat} {w w' : World} (h : Below w.heap.size w w') : Outside F w w' := ⟨h.os, h.tape, h.output, h.size, fun b hb _ => h.block b hb⟩
theorem Outside.trans {F : List Nat} {a b c : World} (h : Outside F a b) (k : Outside F b c) : Outside F a c :=
  ⟨k.os.trans h.os, k.tape.trans h.tape, k.output.trans h.output, Nat.le_trans h.size k.size, fun x hx hF => (k.block x (Nat.lt_of_lt_of_le hx h.size) hF).trans (h.block x hx hF)⟩
theorem Outside.mono {F G : List Nat} {a b : World} (h : Outside F a b) (hs : ∀ x ∈ F, x ∈ G) : Outside G a b :=
  ⟨h.os, h.tape, h.output, h.size, fun x hx hG => h.block x hx (fun hF => hG (hs x hF))⟩
theorem Outside.set {F : List Nat} {a b : World} (h : Outside F a b) {p : Addr} (hp : p.block ∈ F ∨ a.heap.size ≤ p.block) (v : Value) : Outside F a (b.setCell p v) :=
  ⟨h.os, h.tape, h.output, by simpa [World.setCell] using h.size, fun x hx hF => (Below.heap_setCell b p v x (by
    rintro rfl
    rcases hp with hp | hp
    · exact hF hp
    · omega)).trans (h.block x hx hF)⟩
theorem Outside.alloc {F : List Nat} {a b : World} (h : Outside F a b) (o : Obj) : Outside F a (b.alloc o) :=
  h.trans (Outside.of_below ((Below.refl _ _).alloc (Nat.le_refl _) _))
/-- the blocks are new: nothing older has turned -/
theorem Outside.below {F : List Nat} {B : Nat} {a b c : World} (h : Below B a b) (k : Outside F b c) (hF : ∀ x ∈ F, B ≤ x) (hB : B ≤ b.heap.size) : Below B a c :=
  ⟨k.os.trans h.os, k.tape.trans h.tape, k.output.trans h.output, Nat.le_trans h.size k.size, fun x hx =>
    (k.block x (by omega) (fun hm => by have := hF x hm; omega)).trans (h.block x hx)⟩
end Go.Proofs.YtnnhbpgpkpbinaaGreat

namespace Go.Proofs.YtnnhbpgpkpbinaaGreat
open Go.RowKit

theorem cell_set_ne {w : World} {b c o : Nat} {v : Value} (h : c ≠ o) : (w.setCell ⟨b, c, none⟩ v).cell? ⟨b, o, none⟩ = w.cell? ⟨b, o, none⟩ := by
  rw [World.cell?_setCell_other]
  intro e
  injection e with _ e2
  exact h e2
theorem At.set {w : World} {b o c : Nat} {x : TV} (h : At w b o x) (hc : c < o) (v : Value) : At (w.setCell ⟨b, c, none⟩ v) b o x :=
  ⟨(cell_set_ne (by omega)).trans h.c0, (cell_set_ne (by omega)).trans h.c1, (cell_set_ne (by omega)).trans h.c2, (cell_set_ne (by omega)).trans h.c3, (cell_set_ne (by omega)).trans h.c4, (cell_set_ne (by omega)).trans h.c5⟩
theorem LaidL.set {w : World} {b c : Nat} {v : Value} : ∀ {l : List T} {i : Nat} {F : List Nat}, LaidL w l b i F → b ∉ F → c < i * 6 → LaidL (w.setCell ⟨b, c, none⟩ v) l b i F
  | [], _, _, h, _, _ => h
  | t :: l, i, F, h, hb, hc => by
    obtain ⟨F1, F2, rfl, ⟨x, hat, ho⟩, hr⟩ := h
    refine ⟨F1, F2, rfl, ⟨x, hat.set hc v, Laid.kept _ _ _ ho (fun a ha => Below.heap_setCell _ _ _ _ (fun e => hb (by simp only at e; rw [← e]; simp [ha])))⟩, ?_⟩
    exact hr.set (fun h => hb (by simp [h])) (by omega)
/-- a block of cells that may be written -/
def Room (w : World) (b ty n : Nat) : Prop := ∃ cur, w.heap[b]? = some (.cells cur ty (0, 0)) ∧ n ≤ cur.size
theorem Room.set {w : World} {b ty n : Nat} (h : Room w b ty n) (o : Nat) (v : Value) : Room (w.setCell ⟨b, o, none⟩ v) b ty n := by
  obtain ⟨cur, h1, h2⟩ := h
  exact ⟨_, heap_setCell_same w b o cur ty v h1, by simpa using h2⟩
theorem Room.kept {w w' : World} {b ty n : Nat} (h : Room w b ty n) (hk : w'.heap[b]? = w.heap[b]?) : Room w' b ty n := by
  obtain ⟨cur, h1, h2⟩ := h
  exact ⟨cur, hk.trans h1, h2⟩
theorem Room.cell {w : World} {b ty n : Nat} (h : Room w b ty n) {o : Nat} (ho : o < n) : ∃ v, w.cell? ⟨b, o, none⟩ = some v := by
  obtain ⟨cur, h1, h2⟩ := h
  exact ⟨cur[o]'(by omega), by simp [World.cell?, h1]⟩
theorem Room.free {w : World} {b ty n : Nat} (h : Room w b ty n) (o : Nat) : w.frozen? ⟨b, o, none⟩ = false := by
  obtain ⟨cur, h1, h2⟩ := h
  simp [World.frozen?, h1]
theorem Room.lt {w : World} {b ty n : Nat} (h : Room w b ty n) : b < w.heap.size := by
  obtain ⟨cur, h1, h2⟩ := h
  exact (Array.getElem?_eq_some_iff.1 h1).1

/-- at a round's head: the kids behind are as they were -/
structure SmearRel (w : World) (x : TV) (l : List T) (b3 : Nat) (F4 : List Nat) (K : Nat) (wr : World) : Prop where
  out : Outside (b3 :: F4) w wr
  box : Box wr w.heap.size x
  row : Room wr b3 29 (x.kc * 6)
  rest : ∃ Fr, (∀ b ∈ Fr, b ∈ F4) ∧ (b3 :: Fr).Nodup ∧ LaidL wr (l.drop K) b3 K Fr
theorem SmearRel.step {w wr w2 : World} {x : TV} {l : List T} {b3 K : Nat} {F4 Fr Fj Fb : List Nat} (h : SmearRel w x l b3 F4 K wr) (hF : ∀ b ∈ Fr, b ∈ F4) (hn : (b3 :: Fr).Nodup) (e : Fr = Fj ++ Fb) (hl : LaidL wr (l.drop (K + 1)) b3 (K + 1) Fb)
    (ho : Outside Fj wr w2) (h3 : b3 < w.heap.size) (h4 : ∀ b ∈ F4, b < w.heap.size) (v0 v1 v2 v3 v4 v5 : Value) :
    SmearRel w x l b3 F4 (K + 1) ((((((w2.setCell ⟨b3, K * 6, none⟩ v0).setCell ⟨b3, K * 6 + 1, none⟩ v1).setCell ⟨b3, K * 6 + 2, none⟩ v2).setCell ⟨b3, K * 6 + 3, none⟩ v3).setCell ⟨b3, K * 6 + 4, none⟩ v4).setCell ⟨b3, K * 6 + 5, none⟩ v5) := by
  subst e
  have hz := h.out.size
  have hd : ∀ b ∈ Fj, b ≠ b3 ∧ b ∉ Fb := by
    intro b hb
    rw [List.nodup_cons, List.nodup_append] at hn
    exact ⟨fun e => hn.1 (by rw [← e]; simp [hb]), fun hb' => hn.2.2.2 b hb b hb' rfl⟩
  have k3 : w2.heap[b3]? = wr.heap[b3]? := ho.block b3 (by omega) (fun hm => (hd b3 hm).1 rfl)
  have hb3 : b3 ∉ Fb := by
    rw [List.nodup_cons] at hn
    exact fun hm => hn.1 (by simp [hm])
  have kb : ∀ b ∈ Fb, w2.heap[b]? = wr.heap[b]? := fun b hb => ho.block b (by have := h4 b (hF b (by simp [hb])); omega) (fun hm => (hd b hm).2 hb)
  have hbx : Box w2 w.heap.size x := by
    have hk : w2.heap[w.heap.size]? = wr.heap[w.heap.size]? := ho.block _ h.box.lt (fun hm => by have := h4 _ (hF _ (List.mem_append_left _ hm)); omega)
    have hc := h.box
    exact ⟨(cell_of_heap hk).trans hc.c0, (cell_of_heap hk).trans hc.c1, (cell_of_heap hk).trans hc.c2, (cell_of_heap hk).trans hc.c3, (cell_of_heap hk).trans hc.c4, (cell_of_heap hk).trans hc.c5, fun o => (World.frozen?_of_block (a := ⟨w.heap.size, o, none⟩) hk).trans (hc.f o)⟩
  have hnb : w.heap.size ≠ b3 := by omega
  refine ⟨?_, ?_, ?_, Fb, fun b hb => hF b (by simp [hb]), ?_, ?_⟩
  · have h1 : Outside (b3 :: F4) w w2 := h.out.trans (ho.mono (fun b hb => by simp [hF b (by simp [hb])]))
    iterate 6 (refine Outside.set ?_ (.inl (by simp)) _)
    exact h1
  · exact (((((hbx.other hnb v0).other hnb v1).other hnb v2).other hnb v3).other hnb v4).other hnb v5
  · exact ((((((h.row.kept k3).set _ _).set _ _).set _ _).set _ _).set _ _).set _ _
  · rw [List.nodup_cons, List.nodup_append] at hn
    exact List.nodup_cons.2 ⟨hb3, hn.2.2.1⟩
  · have h0 := LaidL.kept hl k3 kb
    exact (((((h0.set hb3 (by omega)).set hb3 (by omega)).set hb3 (by omega)).set hb3 (by omega)).set hb3 (by omega)).set hb3 (by omega)

theorem SmearRel.mid {w wr w2 : World} {x : TV} {l : List T} {b3 K : Nat} {F4 Fr Fj Fb : List Nat} (h : SmearRel w x l b3 F4 K wr) (hF : ∀ b ∈ Fr, b ∈ F4) (hn : (b3 :: Fr).Nodup) (e : Fr = Fj ++ Fb)
    (ho : Outside Fj wr w2) (h3 : b3 < w.heap.size) (h4 : ∀ b ∈ F4, b < w.heap.size) : Box w2 w.heap.size x ∧ Room w2 b3 29 (x.kc * 6) := by
  subst e
  have hz := h.out.size
  have k3 : w2.heap[b3]? = wr.heap[b3]? := ho.block b3 (by omega) (fun hm => by rw [List.nodup_cons] at hn; exact hn.1 (List.mem_append_left _ hm))
  refine ⟨?_, h.row.kept k3⟩
  have hk : w2.heap[w.heap.size]? = wr.heap[w.heap.size]? := ho.block _ h.box.lt (fun hm => by have := h4 _ (hF _ (List.mem_append_left _ hm)); omega)
  have hc := h.box
  exact ⟨(cell_of_heap hk).trans hc.c0, (cell_of_heap hk).trans hc.c1, (cell_of_heap hk).trans hc.c2, (cell_of_heap hk).trans hc.c3, (cell_of_heap hk).trans hc.c4, (cell_of_heap hk).trans hc.c5, fun o => (World.frozen?_of_block (a := ⟨w.heap.size, o, none⟩) hk).trans (hc.f o)⟩

def SmearPost (F : List Nat) (w : World) (e : Ending) (w' : World) : Prop := e = .returned (.tuple #[]) ∧ Outside F w w'
def SmearAll (t : T) : Prop := ∀ (x : TV) (F : List Nat) (w : World), Laid w t x F → F.Nodup → (∀ b ∈ F, b < w.heap.size) → Calls Tryz.prog 31 #[x.val] w (SmearPost F w)
/-- one list of numbers written over -/
structure SmearI (w : World) (x : TV) (G : List Nat) (b ty n b' ty' n' : Nat) (wr : World) : Prop where
  out : Outside G w wr
  box : Box wr w.heap.size x
  row : Room wr b ty n
  next : Room wr b' ty' n'
theorem SmearI.step {w wr : World} {x : TV} {G : List Nat} {b ty n b' ty' n' : Nat} (h : SmearI w x G b ty n b' ty' n' wr) (hG : b ∈ G) (hb : b < w.heap.size) (hne : b' ≠ b) (o : Nat) (v : Value) : SmearI w x G b ty n b' ty' n' (wr.setCell ⟨b, o, none⟩ v) :=
  ⟨h.out.set (.inl hG) v, h.box.other (by omega) v, h.row.set o v, h.next.kept (Below.heap_setCell _ _ _ _ hne)⟩

set_option maxRecDepth 100000 in
set_option maxHeartbeats 2000000 in
theorem smear_all (t : T) : SmearAll t := by
  refine T.ind (P := SmearAll) ?_ t
  intro k s n sh a l ih x F w hl hnd hlt
  simp only [Laid] at hl
  obtain ⟨hw, hk, ht, hn, hkl, b1, b2, b3, F4, rfl, m1, m2, m3, hL⟩ := hl
  have hS0 : SmearRel w x l b3 F4 0 (w.alloc (.cells x.cells 29)) := by
    have hb := (Below.refl w.heap.size w).alloc (Nat.le_refl _) (.cells x.cells 29)
    refine ⟨Outside.of_below hb, Box.new w x _, ?_, F4, fun _ h => h, ?_, ?_⟩
    · have : Room w b3 29 (x.kc * 6) := m3.blk
      exact this.kept (hb.block b3 (hlt b3 (by simp)))
    · rw [List.nodup_cons, List.nodup_cons] at hnd
      exact hnd.2.2
    · exact LaidL.kept hL (hb.block b3 (hlt b3 (by simp))) (fun b hb' => hb.block b (hlt b (by simp [hb'])))
  simp only [TV.cells] at hS0
  have HS0 := Lib.hid hS0
  have h3 : b3 < w.heap.size := hlt b3 (by simp)
  have h4 : ∀ b ∈ F4, b < w.heap.size := fun b hb => hlt b (by simp [hb])
  have hb1 : b1 < w.heap.size := hlt b1 (by simp)
  have hb2 : b2 < w.heap.size := hlt b2 (by simp)
  have H4 := Lib.hid h4
  have HKL := Lib.hid hkl
  have HIH := Lib.hid ih
  have HM1 := Lib.hid m1
  have HM2 := Lib.hid m2
  have HND := Lib.hid hnd
  have hka := m3.adr
  have hsa := m1.adr
  have haa := m2.adr
  have hkr := m3.room
  have hsr := m1.room
  have har := m2.room
  have hk1 := hw.l1
  have hs1 := hw.s1
  have ha1 := hw.a1
  clear hS0 h4 hkl ih m1 m2 m3 hL hnd hlt hw hk ht hn
  obtain ⟨xk, xt, xn, xsa, xsl, xsc, xaa, xal, xac, xka, xkl, xkc⟩ := x
  simp only at hka hsa haa hkr hsr har hk1 hs1 ha1 HKL
  subst hka hsa haa
  simp only [TV.val, TV.cells]
  go_enter Tryz.func31, Tryz.ntmps31
  go_wp2_with fail
  go_loopw [2] (fun i wr => ∃ K : Nat, K ≤ xkl ∧ i = .int .i64 K ∧ SmearRel w ⟨xk, xt, xn, some ⟨b1, 0, none⟩, xsl, xsc, some ⟨b2, 0, none⟩, xal, xac, some ⟨b3, 0, none⟩, xkl, xkc⟩ l b3 F4 K wr) (fun i _ => xkl - (intOf i).toNat)
  case atStart => exact ⟨0, Nat.zero_le _, rfl, HS0.out⟩
  case round =>
    obtain ⟨K, hK, rfl, hrel⟩ := hrel
    have HS := Lib.hid hrel
    obtain ⟨q0, q1, q2, q3, q4, q5, qf⟩ := hrel.box
    simp only at q0 q1 q2 q3 q4 q5
    clear hrel
    by_cases hlt : K < xkl
    · have hKl : K < l.length := by have := HKL.out; omega
      obtain ⟨Fr, hF, hnd, hL⟩ := HS.out.rest
      rw [List.drop_eq_getElem_cons hKl] at hL
      obtain ⟨Fj, Fb, eF, ⟨y, hat, ho⟩, hr⟩ := hL
      have hjn : Fj.Nodup := by
        rw [eF, List.nodup_cons, List.nodup_append] at hnd
        exact hnd.2.1
      have HC := Lib.hid (HIH.out l[K] (List.getElem_mem hKl) y Fj wr ho hjn (fun b hb => by have := H4.out b (hF b (by rw [eF]; exact List.mem_append_left _ hb)); have := HS.out.out.size; omega))
      have HSTEP := Lib.hid (fun (w2 : World) (ho : Outside Fj wr w2) => HS.out.step hF hnd eF hr ho h3 H4.out)
      have HMID := Lib.hid (fun (w2 : World) (ho : Outside Fj wr w2) => HS.out.mid hF hnd eF ho h3 H4.out)
      obtain ⟨p0, p1, p2, p3, p4, p5⟩ := hat
      simp only [TV.val, TV.cells] at HC
      clear hr ho hnd hF hjn eF
      have hlt2 : K < xkc := by omega
      go_wp2_with fail
      refine HC.out.mono ?_
      rintro e w2 ⟨rfl, ho2⟩
      have HST := Lib.hid (HSTEP.out w2 ho2)
      obtain ⟨hbx, hroom⟩ := HMID.out w2 ho2
      clear q0 q1 q2 q3 q4 q5 qf p0 p1 p2 p3 p4 p5 ho2
      obtain ⟨q0, q1, q2, q3, q4, q5, qf⟩ := hbx
      have hfr := hroom.free
      obtain ⟨v0, p0⟩ := hroom.cell (o := K * 6) (by omega)
      obtain ⟨v1, p1⟩ := hroom.cell (o := K * 6 + 1) (by omega)
      obtain ⟨v2, p2⟩ := hroom.cell (o := K * 6 + 2) (by omega)
      obtain ⟨v3, p3⟩ := hroom.cell (o := K * 6 + 3) (by omega)
      obtain ⟨v4, p4⟩ := hroom.cell (o := K * 6 + 4) (by omega)
      obtain ⟨v5, p5⟩ := hroom.cell (o := K * 6 + 5) (by omega)
      clear hroom
      simp only at q0 q1 q2 q3 q4 q5
      go_wp2_with fail
      go_roundw
      case rel => exact ⟨K + 1, by omega, by go_num, HST.out _ _ _ _ _ _⟩
      case measure => simp [intOf]; omega
    · have hI : SmearI w ⟨xk, xt, xn, some ⟨b1, 0, none⟩, xsl, xsc, some ⟨b2, 0, none⟩, xal, xac, some ⟨b3, 0, none⟩, xkl, xkc⟩ (b1 :: b2 :: b3 :: F4) b1 3 xsc b2 2 xac wr := by
        have hn := HND.out
        rw [List.nodup_cons, List.nodup_cons] at hn
        refine ⟨HS.out.out.mono (fun b hb => by simp at hb ⊢; rcases hb with h | h; exact .inr (.inr (.inl h)); exact .inr (.inr (.inr h))), HS.out.box, ?_, ?_⟩
        · have h0 : Room w b1 3 xsc := HM1.out.blk
          exact h0.kept (HS.out.out.block b1 hb1 (fun hm => hn.1 (by simp at hm ⊢; exact .inr hm)))
        · have h0 : Room w b2 2 xac := HM2.out.blk
          exact h0.kept (HS.out.out.block b2 hb2 hn.2.1)
      have HI0 := Lib.hid hI
      have hne : b2 ≠ b1 := by
        have hn := HND.out
        rw [List.nodup_cons] at hn
        exact fun e => hn.1 (by simp [e])
      clear hI q0 q1 q2 q3 q4 q5 qf
      obtain ⟨q0, q1, q2, q3, q4, q5, qf⟩ := HS.out.box
      simp only at q0 q1 q2 q3 q4 q5
      go_wp2_with fail
      clear q0 q1 q2 q3 q4 q5 qf
      go_loopw [3] (fun i wq => ∃ J : Nat, J ≤ xsl ∧ i = .int .i64 J ∧ SmearI w ⟨xk, xt, xn, some ⟨b1, 0, none⟩, xsl, xsc, some ⟨b2, 0, none⟩, xal, xac, some ⟨b3, 0, none⟩, xkl, xkc⟩ (b1 :: b2 :: b3 :: F4) b1 3 xsc b2 2 xac wq) (fun i _ => xsl - (intOf i).toNat)
      case atStart => exact ⟨0, Nat.zero_le _, rfl, HI0.out⟩
      case round =>
        obtain ⟨J, hJ, rfl, hrel⟩ := hrel
        have HI := Lib.hid hrel
        obtain ⟨q0, q1, q2, q3, q4, q5, qf⟩ := hrel.box
        simp only at q0 q1 q2 q3 q4 q5
        have hroom := hrel.row
        clear hrel
        by_cases hlt2 : J < xsl
        · have hfr := hroom.free
          obtain ⟨v0, p0⟩ := hroom.cell (o := J) (by omega)
          clear hroom
          go_wp2_with fail
          go_roundw
          case rel => exact ⟨J + 1, by omega, by go_num, HI.out.step (by simp) hb1 hne _ _⟩
          case measure => simp [intOf]; omega
        · clear hroom
          have hI : SmearI w ⟨xk, xt, xn, some ⟨b1, 0, none⟩, xsl, xsc, some ⟨b2, 0, none⟩, xal, xac, some ⟨b3, 0, none⟩, xkl, xkc⟩ (b1 :: b2 :: b3 :: F4) b2 2 xac b1 3 xsc wr := ⟨HI.out.out, HI.out.box, HI.out.next, HI.out.row⟩
          have HI2 := Lib.hid hI
          clear hI
          go_wp2_with fail
          clear q0 q1 q2 q3 q4 q5 qf
          go_loopw [4] (fun i wq => ∃ J : Nat, J ≤ xal ∧ i = .int .i64 J ∧ SmearI w ⟨xk, xt, xn, some ⟨b1, 0, none⟩, xsl, xsc, some ⟨b2, 0, none⟩, xal, xac, some ⟨b3, 0, none⟩, xkl, xkc⟩ (b1 :: b2 :: b3 :: F4) b2 2 xac b1 3 xsc wq) (fun i _ => xal - (intOf i).toNat)
          case atStart => exact ⟨0, Nat.zero_le _, rfl, HI2.out⟩
          case round =>
            obtain ⟨J2, hJ2, rfl, hrel⟩ := hrel
            have HI3 := Lib.hid hrel
            obtain ⟨q0, q1, q2, q3, q4, q5, qf⟩ := hrel.box
            simp only at q0 q1 q2 q3 q4 q5
            have hroom := hrel.row
            clear hrel
            by_cases hlt3 : J2 < xal
            · have hfr := hroom.free
              obtain ⟨v0, p0⟩ := hroom.cell (o := J2) (by omega)
              clear hroom
              go_wp2_with fail
              go_roundw
              case rel => exact ⟨J2 + 1, by omega, by go_num, HI3.out.step (by simp) hb2 (Ne.symm hne) _ _⟩
              case measure => simp [intOf]; omega
            · clear hroom
              go_wp2_with fail
              refine bodyPost_ret (results_none rfl _ _ _) rfl ⟨rfl, HI3.out.out⟩
end Go.Proofs.YtnnhbpgpkpbinaaGreat
