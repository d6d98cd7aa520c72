/- The law ExpandFresh: terms that may be have no long lists. The law's Shelf: what Ends reads, and its Book. The law ExpandFresh: what stays as it was from step to step. The law's Shelf: Ends. The law ExpandFresh: its walk. ExpandFresh holds: the row. -/
import Derived.Test.YtnnhbpgpkpbinaaGreatMLay2
import Derived.Test.YtnnhbpgpkpbinaaGreatMExp10
import Derived.Test.YtnnhbpgpkpbinaaGreatMShA
import Derived.Test.YtnnhbpgpkpbinaaGreatMBkB
import Derived.Test.YtnnhbpgpkpbinaaGreatMLayA
import Derived.Test.YtnnhbpgpkpbinaaGreatMLay3
import Derived.Test.YtnnhbpgpkpbinaaGreatMTermD
import Derived.StillTailTactics
import Derived.Deep.Cut
import Derived.Test.YtnnhbpgpkpbinaaGreatMLaw4
import Derived.Test.YtnnhbpgpkpbinaaGreatMRead
import Derived.Test.YtnnhbpgpkpbinaaGreatMPost
set_option linter.unusedVariables false
set_option linter.unusedSimpArgs false
namespace Go.Proofs.YtnnhbpgpkpbinaaGreat
open Go.RowKit

theorem literal_small {sh a : List Int} (h : T.literal sh a = true) : sh.length ≤ 524288 ∧ a.length ≤ 524288 := by
  unfold T.literal at h
  split at h
  · simp at h; simp [h]
  · simp at h; simp; omega
  · cases h
theorem ranks_small {sh a : List Int} (h : T.ranks sh a = true) : sh.length ≤ 524288 ∧ a.length ≤ 524288 := by
  unfold T.ranks at h
  split at h
  · simp at h
    have := h.1.2
    simp; omega
  · cases h
theorem fields_small {k : Int} {s : ByteArray} {n : Int} {sh a : List Int} {l : List T} (h : T.fields (.mk k s n sh a l) = true) : sh.length ≤ 524288 ∧ a.length ≤ 524288 := by
  simp only [T.fields, T.kind_mk, T.shape_mk, T.atoms_mk, Bool.and_eq_true] at h
  have h2 := h.2
  clear h
  by_cases h1 : k = 1
  · simp only [h1, ↓reduceIte] at h2; exact literal_small h2
  · simp only [h1, ↓reduceIte] at h2
    by_cases h4 : k = 42
    · simp only [h4, ↓reduceIte] at h2; exact ranks_small h2
    · simp only [h4, ↓reduceIte] at h2; simp at h2; simp [h2.1, h2.2]
theorem good_small (t : T) : ∀ b, T.good t b = true → t.small := by
  refine T.ind (P := fun t => ∀ b, T.good t b = true → t.small) ?_ t
  intro k s n sh a l ih b h
  simp only [T.good, Bool.and_eq_true] at h
  have h1 := h.1
  simp only [T.node, Bool.and_eq_true] at h1
  obtain ⟨h2, h3⟩ := fields_small h1.1.1.2
  refine ⟨h2, h3, ?_⟩
  have hg := h.2
  generalize T.under (.mk k s n sh a l) b = c at hg
  clear h h1
  induction l with
  | nil => trivial
  | cons u l ihl =>
    simp only [T.goodL, Bool.and_eq_true] at hg
    exact ⟨ih u (by simp) c hg.1, ihl (fun v hv => ih v (by simp [hv])) hg.2⟩
theorem verb_small {t : T} (h : Verb t) : t.small := good_small t _ h.good
end Go.Proofs.YtnnhbpgpkpbinaaGreat

namespace Go.Proofs.YtnnhbpgpkpbinaaGreat
open Go.RowKit

/-- what is read of the Shelf at a place, the answers' lists written over or not -/
theorem ShelfG.reads {w wr : World} {ps : Nat} {va vw : Value} {Y Z : List TV} {ts : List T} {N : Nat} {F : List Nat} {S : Nat → Prop} (h : ShelfG w ps va vw Y Z ts ts N F S) (ho : Outside F w wr) {i : Nat} (hi : i < ts.length) :
    ∃ ga ca gw cw y z, va = .slice (some ⟨ga, 0, none⟩) ts.length ca ∧ vw = .slice (some ⟨gw, 0, none⟩) ts.length cw ∧ ts.length ≤ ca ∧ ts.length ≤ cw ∧ Y[i]? = some y ∧ wr.cell? ⟨ps, 0, none⟩ = some (.slice (some ⟨ga, 0, none⟩) ts.length ca) ∧ wr.cell? ⟨ps, 1, none⟩ = some (.slice (some ⟨gw, 0, none⟩) ts.length cw) ∧
      At wr ga (i * 6) y ∧ At wr gw (i * 6) z ∧ RepS wr S ts[i] z ∧ ga < w.heap.size ∧ gw < w.heap.size ∧ ga ∉ F ∧ gw ∉ F := by
  obtain ⟨n1, n2, n3, n4⟩ := nodupT.1 h.nodup
  have hly : Y.length = ts.length := h.own.len
  have hlz : Z.length = ts.length := h.len
  have r0 := h.r0
  have r1 := h.r1
  rw [hly] at r0
  rw [hlz] at r1
  obtain ⟨z, hz, hzr⟩ := h.reps i ts[i] (List.getElem?_eq_getElem hi)
  have hy : Y[i]? = some (Y[i]'(by omega)) := List.getElem?_eq_getElem (by omega)
  have f0 : ∃ ga ca, va = .slice (some ⟨ga, 0, none⟩) ts.length ca ∧ ts.length ≤ ca := by
    rcases r0 with ⟨_, ⟨e1, e2⟩ | ⟨g, cap, cur, e, hg, hcur, h4, _⟩⟩
    · omega
    · exact ⟨g, cap, e, h4⟩
  have f1 : ∃ gw cw, vw = .slice (some ⟨gw, 0, none⟩) ts.length cw ∧ ts.length ≤ cw := by
    rcases r1 with ⟨_, ⟨e1, e2⟩ | ⟨g, cap, cur, e, hg, hcur, h4, _⟩⟩
    · omega
    · exact ⟨g, cap, e, h4⟩
  obtain ⟨ga, ca, rfl, hca⟩ := f0
  obtain ⟨gw, cw, rfl, hcw⟩ := f1
  obtain ⟨_, l0, a0⟩ := row_at r0
  obtain ⟨_, l1, a1⟩ := row_at r1
  have hp : wr.heap[ps]? = w.heap[ps]? := ho.block ps (h.lt ps (by simp [deskT])) n3
  have ka : wr.heap[ga]? = w.heap[ga]? := ho.block ga l0 (n1 ga rfl).2.1
  have kw : wr.heap[gw]? = w.heap[gw]? := ho.block gw l1 (n2 gw rfl).2
  refine ⟨ga, ca, gw, cw, _, z, rfl, rfl, hca, hcw, hy, (cell_of_heap hp).trans h.c0, (cell_of_heap hp).trans h.c1, (a0 i _ hy).kept ka, (a1 i z hz).kept kw, ?_, l0, l1, (n1 ga rfl).2.1, (n2 gw rfl).2⟩
  exact RepS.keep (fun b o hb => cell_of_heap (ho.block b (h.sap b hb).1 (fun hm => (h.sap b hb).2 (List.mem_append_right _ hm)))) (fun _ h => h) _ _ hzr
theorem OwnK.uncons {w : World} {ts : List T} {Y : List TV} {F : List Nat} {i : Nat} (hi : i < ts.length) (h : OwnK w (ts.drop i) (Y.drop i) F) {y : TV} (hy : Y[i]? = some y) : ∃ F1 F2, F = F1 ++ F2 ∧ Own w ts[i] y F1 ∧ OwnK w (ts.drop (i + 1)) (Y.drop (i + 1)) F2 := by
  have hl := (List.getElem?_eq_some_iff.1 hy).1
  have he := (List.getElem?_eq_some_iff.1 hy).2
  rw [List.drop_eq_getElem_cons hi, List.drop_eq_getElem_cons hl, he] at h
  exact h
theorem OwnK.get {w : World} : ∀ {ts : List T} {Y : List TV} {F : List Nat}, OwnK w ts Y F → ∀ {i : Nat} {y : TV} (hi : i < ts.length), Y[i]? = some y → ∃ Fi, (∀ b ∈ Fi, b ∈ F) ∧ Own w ts[i] y Fi
  | t :: ts, z :: Y, F, h, i, y, hi, hy => by
    obtain ⟨F1, F2, rfl, h1, h2⟩ := h
    match i, hi, hy with
    | 0, hi, hy =>
      simp at hy
      subst hy
      exact ⟨F1, fun b hb => List.mem_append_left _ hb, h1⟩
    | i + 1, hi, hy =>
      obtain ⟨Fi, g1, g2⟩ := h2.get (i := i) (by simpa using hi) (by simpa using hy)
      exact ⟨Fi, fun b hb => List.mem_append_right _ (g1 b hb), g2⟩
  | [], _, _, _, i, _, hi, _ => absurd hi (by simp)
  | _ :: _, [], _, h, _, _, _, _ => h.elim
/-- within Ends: answers ahead of i are the Book's -/
structure EndsAt (w0 wr : World) (pb : Nat) (G : List Nat) (ts : List T) (Y : List TV) (F Fr : List Nat) (i : Nat) : Prop where
  book : BookS wr pb G
  own : OwnK wr (ts.drop i) (Y.drop i) Fr
  nodup : Fr.Nodup
  sub : ∀ b ∈ Fr, b ∈ F
  lt : ∀ b ∈ Fr, b < wr.heap.size
  apart : ∀ b ∈ Fr, b ∉ G
  gsub : ∀ b ∈ G, b ∈ F ∨ w0.heap.size ≤ b
  out : Outside F w0 wr
theorem EndsAt.below {w0 wr w1 : World} {pb : Nat} {G : List Nat} {ts : List T} {Y : List TV} {F Fr : List Nat} {i : Nat} (h : EndsAt w0 wr pb G ts Y F Fr i) (hb : Below wr.heap.size wr w1) : EndsAt w0 w1 pb G ts Y F Fr i :=
  ⟨h.book.below hb, h.own.kept (fun b hb' => hb.block b (h.lt b hb')), h.nodup, h.sub, fun b hb' => Nat.lt_of_lt_of_le (h.lt b hb') hb.size, h.apart, h.gsub, h.out.trans (Outside.of_below hb)⟩
theorem EndsAt.step {w0 w1 w2 : World} {pb : Nat} {G G' : List Nat} {ts : List T} {Y : List TV} {F F1 F2 : List Nat} {i : Nat} (h : EndsAt w0 w1 pb G ts Y F (F1 ++ F2) i) (hr : OwnK w1 (ts.drop (i + 1)) (Y.drop (i + 1)) F2)
    (hB : BookS w2 pb G') (hG : ∀ b ∈ G', b ∈ G ++ F1 ∨ w1.heap.size ≤ b) (ho : Outside (G ++ F1) w1 w2) : EndsAt w0 w2 pb G' ts Y F F2 (i + 1) := by
  have hn := List.nodup_append.1 h.nodup
  have h2 : ∀ b ∈ F2, b ∉ G ++ F1 := fun b hb hm => by
    rcases List.mem_append.1 hm with hm | hm
    · exact h.apart b (List.mem_append_right _ hb) hm
    · exact hn.2.2 b hm b hb rfl
  have hz := h.out.size
  refine ⟨hB, hr.kept (fun b hb => ho.block b (h.lt b (List.mem_append_right _ hb)) (h2 b hb)), hn.2.1, fun b hb => h.sub b (List.mem_append_right _ hb), fun b hb => Nat.lt_of_lt_of_le (h.lt b (List.mem_append_right _ hb)) ho.size, fun b hb hm => ?_, fun b hb => ?_, ?_⟩
  · rcases hG b hm with h' | h'
    · exact h2 b hb h'
    · have := h.lt b (List.mem_append_right _ hb); omega
  · rcases hG b hb with h' | h'
    · rcases List.mem_append.1 h' with h' | h'
      · exact h.gsub b h'
      · exact .inl (h.sub b (List.mem_append_left _ h'))
    · exact .inr (by omega)
  · refine ⟨ho.os.trans h.out.os, ho.tape.trans h.out.tape, ho.output.trans h.out.output, Nat.le_trans hz ho.size, fun b hb hF => (ho.block b (by omega) (fun hm => ?_)).trans (h.out.block b hb hF)⟩
    rcases List.mem_append.1 hm with hm | hm
    · rcases h.gsub b hm with h' | h'
      · exact hF h'
      · omega
    · exact hF (h.sub b (List.mem_append_left _ hm))
/-- a new Book -/
theorem book_new (w : World) : BookS (w.alloc (.cells #[.slice none 0 0, .slice none 0 0, .slice none 0 0, .int .i64 0] 46)) w.heap.size [w.heap.size] := by
  refine ⟨.slice none 0 0, .slice none 0 0, .slice none 0 0, [], 0, [], ⟨?_, ?_, ?_, ?_, ?_, World.ownsRow_nil _ _ _ _, World.ownsRow_nil _ _ _ _, World.ownsRow_nil _ _ _ _⟩, rfl, by simp, rfl, by omega, by omega, by simp, fun _ => by simp⟩
  all_goals simp
def EndsPost (F : List Nat) (w : World) (e : Ending) (w' : World) : Prop := e = .returned (.bool true) ∧ Outside F w w'
end Go.Proofs.YtnnhbpgpkpbinaaGreat

namespace Go.Proofs.YtnnhbpgpkpbinaaGreat
open Go.RowKit

/-- blocks that a step wrote lie outside of a range -/
def Off (D : List Nat) (lo hi : Nat) : Prop := ∀ b ∈ D, b < lo ∨ hi ≤ b
theorem Off.nil (lo hi : Nat) : Off [] lo hi := fun _ h => by cases h
theorem Off.in_ {D : List Nat} {lo hi b : Nat} (h : Off D lo hi) (h1 : lo ≤ b) (h2 : b < hi) : b ∉ D := fun hm => by
  rcases h b hm with h | h <;> omega
theorem Own.out {W W' : World} {t : T} {y : TV} {F D : List Nat} {lo hi : Nat} (h : Own W t y F) (hf : Fresh lo hi F) (ho : Outside D W W') (hD : Off D lo hi) (hh : hi ≤ W.heap.size) : Own W' t y F :=
  Own.kept _ _ _ h (fun b hb => ho.block b (Nat.lt_of_lt_of_le (hf.hi b hb) hh) (hD.in_ (hf.lo b hb) (hf.hi b hb)))
theorem Laid.out {W W' : World} {t : T} {y : TV} {F D : List Nat} {lo hi : Nat} (h : Laid W t y F) (hf : Fresh lo hi F) (ho : Outside D W W') (hD : Off D lo hi) (hh : hi ≤ W.heap.size) : Laid W' t y F :=
  Laid.kept _ _ _ h (fun b hb => ho.block b (Nat.lt_of_lt_of_le (hf.hi b hb) hh) (hD.in_ (hf.lo b hb) (hf.hi b hb)))
theorem RepS.out {W W' : World} {t : T} {y : TV} {D : List Nat} {lo hi : Nat} (h : RepS W (fun b => lo ≤ b ∧ b < hi) t y) (ho : Outside D W W') (hD : Off D lo hi) (hh : hi ≤ W.heap.size) : RepS W' (fun b => lo ≤ b ∧ b < hi) t y :=
  RepS.keep (fun b o hb => cell_of_heap (ho.block b (Nat.lt_of_lt_of_le hb.2 hh) (hD.in_ hb.1 hb.2))) (fun _ h => h) _ _ h
theorem Box.out {W W' : World} {p : Nat} {x : TV} {D : List Nat} (h : Box W p x) (ho : Outside D W W') (hD : p ∉ D) : Box W' p x := by
  have hk : W'.heap[p]? = W.heap[p]? := ho.block p h.lt hD
  exact ⟨(cell_of_heap hk).trans h.c0, (cell_of_heap hk).trans h.c1, (cell_of_heap hk).trans h.c2, (cell_of_heap hk).trans h.c3, (cell_of_heap hk).trans h.c4, (cell_of_heap hk).trans h.c5, fun o => (World.frozen?_of_block (a := ⟨p, o, none⟩) hk).trans (h.f o)⟩
/-- the Book and the Shelf, apart and of memory made since -/
structure Both (w wr : World) (pb ps : Nat) (G : List Nat) (H : Nat → Prop) : Prop where
  book : BookS wr pb G
  shelf : ShelfS wr ps H
  apart : ∀ b ∈ G, ¬ H b
  gnew : ∀ b ∈ G, w.heap.size ≤ b
  hnew : ∀ b, H b → w.heap.size ≤ b
  below : Below w.heap.size w wr
theorem Both.step {w wr W : World} {pb ps : Nat} {G : List Nat} {H : Nat → Prop} (h : Both w wr pb ps G H) (hb : Below wr.heap.size wr W) : Both w W pb ps G H :=
  ⟨h.book.below hb, h.shelf.below hb, h.apart, h.gnew, h.hnew, h.below.trans (hb.mono h.below.size)⟩
theorem below_of_outside {w wr W : World} {D : List Nat} (h : Below w.heap.size w wr) (ho : Outside D wr W) (hD : ∀ b ∈ D, w.heap.size ≤ b) : Below w.heap.size w W :=
  Outside.below h ho hD h.size
/-- other memory written -/
theorem Both.out {w wr W : World} {pb ps : Nat} {G D : List Nat} {H : Nat → Prop} (h : Both w wr pb ps G H) (ho : Outside D wr W) (hD : ∀ b ∈ D, w.heap.size ≤ b ∧ b ∉ G ∧ ¬ H b) : Both w W pb ps G H :=
  ⟨h.book.outside ho (fun b hb hm => (hD b hm).2.1 hb), h.shelf.outside ho (fun b hb => (hD b hb).2.2), h.apart, h.gnew, h.hnew, below_of_outside h.below ho (fun b hb => (hD b hb).1)⟩
/-- the Shelf keeps more -/
theorem Both.keep {w wr W : World} {pb ps : Nat} {G Fy : List Nat} {H : Nat → Prop} {e : Ending} (h : Both w wr pb ps G H) (hk : KeepPost wr ps H Fy e W) (hF : ∀ b ∈ Fy, b ∉ G ∧ w.heap.size ≤ b) :
    e = .returned (.tuple #[]) ∧ ∃ H' D, Both w W pb ps G H' ∧ Outside D wr W ∧ (∀ b ∈ D, H b) ∧ ∀ b, H' b → H b ∨ b ∈ Fy ∨ wr.heap.size ≤ b := by
  obtain ⟨he, H', D, h1, h2, h3, h4⟩ := hk
  have hz := h.below.size
  refine ⟨he, H', D, ⟨h.book.outside h4 (fun b hb hm => h.apart b hb (h3 b hm)), h1, fun b hb hH => ?_, h.gnew, fun b hb => ?_, below_of_outside h.below h4 (fun b hb => h.hnew b (h3 b hb))⟩, h4, h3, h2⟩
  · rcases h2 b hH with h' | h' | h'
    · exact h.apart b hb h'
    · exact (hF b h').1 hb
    · have := h.book.lt b hb; omega
  · rcases h2 b hb with h' | h' | h'
    · exact h.hnew b h'
    · exact (hF b h').2
    · omega
/-- the Book takes one more -/
theorem Both.take {w wr W : World} {pb ps : Nat} {G Fx : List Nat} {H : Nat → Prop} {e : Ending} (h : Both w wr pb ps G H) (hk : TakePost wr pb G Fx e W) (hF : ∀ b ∈ Fx, ¬ H b ∧ w.heap.size ≤ b) :
    e = .returned (.tuple #[]) ∧ ∃ G', Both w W pb ps G' H ∧ Outside (G ++ Fx) wr W ∧ ∀ b ∈ G', b ∈ G ++ Fx ∨ wr.heap.size ≤ b := by
  obtain ⟨he, G', h1, h2, h3⟩ := hk
  have hz := h.below.size
  have hGF : ∀ b ∈ G ++ Fx, ¬ H b ∧ w.heap.size ≤ b := fun b hb => by
    rcases List.mem_append.1 hb with hb | hb
    · exact ⟨h.apart b hb, h.gnew b hb⟩
    · exact hF b hb
  refine ⟨he, G', ⟨h1, h.shelf.outside h3 (fun b hb => (hGF b hb).1), fun b hb hH => ?_, fun b hb => ?_, h.hnew, below_of_outside h.below h3 (fun b hb => (hGF b hb).2)⟩, h3, h2⟩
  · rcases h2 b hb with h' | h'
    · exact (hGF b h').1 hH
    · have := h.shelf.lt b hH; omega
  · rcases h2 b hb with h' | h'
    · exact (hGF b h').2
    · omega
/-- both new -/
theorem both_new {w wb : World} (hb : Below w.heap.size w wb) :
    Both w ((wb.alloc (.cells #[.slice none 0 0, .slice none 0 0, .slice none 0 0, .int .i64 0] 46)).alloc (.cells #[.slice none 0 0, .slice none 0 0, .int .i64 0] 49)) wb.heap.size (wb.heap.size + 1) [wb.heap.size] (fun b => b = wb.heap.size + 1) := by
  have hz := hb.size
  refine ⟨(book_new wb).below ((Below.refl _ _).alloc (Nat.le_refl _) _), ⟨.slice none 0 0, .slice none 0 0, [], [], [], 0, [], fun _ => False, ⟨?_, ?_, ?_, ?_, World.ownsRow_nil _ _ _ _, World.ownsRow_nil _ _ _ _, rfl, fun j u h => by simp at h, rfl, by simp [deskT, Value.ownBlock], by simp, fun _ h => h.elim, by simp⟩, by simp, by omega, ?_, ?_⟩, ?_, ?_, ?_, ?_⟩
  · simp
  · simp
  · simp
  · intro o; simp
  · intro b hb'
    rcases hb' with hb' | hb'
    · simpa [deskT, Value.ownBlock] using hb'
    · exact hb'.elim
  · rintro b rfl; simp
  · simp
  · simpa using hz
  · rintro b rfl; omega
  · exact (hb.alloc hz _).alloc (by simp; omega) _
/-- what a round has made: the document's answer, the term that was laid, the second answer; the first one's blocks lie between p9 and p10 -/
structure Items (W : World) (t U : T) (u yl y : TV) (FL FY : List Nat) (a0 p7 p9 p10 p12 : Nat) : Prop where
  ru : RepS W (fun b => a0 ≤ b ∧ b < p7) U u
  ll : Laid W t yl FL
  lf : Fresh (p7 + 1) p9 FL
  oy : Own W U y FY
  yf : Fresh (p10 + 1) p12 FY
  x7 : Box W p7 u
  x9 : Box W p9 yl
  x12 : Box W p12 y
  o1 : a0 ≤ p7
  o2 : p7 < p9
  o3 : p9 < p10
  o4 : p10 < p12
  o5 : p12 < W.heap.size
theorem Items.out {W W' : World} {t U : T} {u yl y : TV} {FL FY D : List Nat} {a0 p7 p9 p10 p12 : Nat} (h : Items W t U u yl y FL FY a0 p7 p9 p10 p12) (ho : Outside D W W') (hD : ∀ b ∈ D, b < a0 ∨ (p9 < b ∧ b < p10)) : Items W' t U u yl y FL FY a0 p7 p9 p10 p12 := by
  have o1 := h.o1
  have o2 := h.o2
  have o3 := h.o3
  have o4 := h.o4
  have o5 := h.o5
  refine ⟨h.ru.out ho (fun b hb => ?_) (by omega), h.ll.out h.lf ho (fun b hb => ?_) (by omega), h.lf, h.oy.out h.yf ho (fun b hb => ?_) (by omega), h.yf, h.x7.out ho (fun hm => ?_), h.x9.out ho (fun hm => ?_), h.x12.out ho (fun hm => ?_), o1, o2, o3, o4, Nat.lt_of_lt_of_le o5 ho.size⟩
  · rcases hD b hb with h' | h' <;> omega
  · rcases hD b hb with h' | h' <;> omega
  · rcases hD b hb with h' | h' <;> omega
  · rcases hD _ hm with h' | h' <;> omega
  · rcases hD _ hm with h' | h' <;> omega
  · rcases hD _ hm with h' | h' <;> omega
theorem Items.step {W W' : World} {t U : T} {u yl y : TV} {FL FY : List Nat} {a0 p7 p9 p10 p12 : Nat} (h : Items W t U u yl y FL FY a0 p7 p9 p10 p12) (hb : Below W.heap.size W W') : Items W' t U u yl y FL FY a0 p7 p9 p10 p12 :=
  h.out (Outside.of_below hb : Outside [] W W') (fun b hb => by cases hb)
end Go.Proofs.YtnnhbpgpkpbinaaGreat

namespace Go.Proofs.YtnnhbpgpkpbinaaGreat
open Go.RowKit

set_option maxRecDepth 100000 in
set_option maxHeartbeats 2000000 in
theorem ends_calls (w : World) (ps : Nat) (H : Nat → Prop) (hS : ShelfS w ps H) :
    Calls Tryz.prog 17 #[.pointer (some ⟨ps, 0, none⟩)] w (fun e w' => ∃ D, (∀ b ∈ D, H b) ∧ e = .returned (.bool true) ∧ Outside D w w') := by
  obtain ⟨va, vw, Y, Z, ts, N, F, S, hsh, hcnt, htop, hH, hHlt⟩ := hS
  have hly : Y.length = ts.length := hsh.own.len
  obtain ⟨p0, d0, e0, hd0⟩ := ownsRow_form hsh.r0
  rw [hly] at e0 hd0
  have hps : ps ∉ F := (nodupT.1 hsh.nodup).2.2.1
  have hpl : ps < w.heap.size := hsh.lt ps (by simp [deskT])
  have HC0 := Lib.hid (fun (W : World) (h : Outside F w W) => (show W.cell? ⟨ps, 0, none⟩ = some (.slice p0 ts.length d0) from (cell_of_heap (h.block ps hpl hps)).trans (hsh.c0.trans (congrArg some e0))))
  have HRD := Lib.hid (fun (W : World) (h : Outside F w W) (i : Nat) (hi : i < ts.length) => hsh.reads h hi)
  have HFH := Lib.hid (fun b (hb : b ∈ F) => hH b (.inl (List.mem_append_right _ hb)))
  have HFIT := Lib.hid hsh.fits
  have HSL := Lib.hid (fun b (hb : S b) => (hsh.sap b hb).1)
  have HOWN := Lib.hid hsh.own
  have HFL := Lib.hid hsh.flt
  have HFN := Lib.hid (nodupT.1 hsh.nodup).2.2.2
  have HLY := Lib.hid hly
  have hlt4 : ts.length ≤ 40000 := Nat.le_trans hcnt htop
  clear hsh hcnt htop hH hHlt e0 hly
  go_enter Tryz.func17, Tryz.ntmps17
  go_wp2_with fail
  go_loopw [3] (fun i wr => ∃ I : Nat, I ≤ ts.length ∧ i = .int .i64 I ∧ Below w.heap.size w wr) (fun i _ => ts.length - (intOf i).toNat)
  case atStart => exact ⟨0, Nat.zero_le _, rfl, Below.refl _ _⟩
  case round =>
    obtain ⟨I, hI, rfl, hb⟩ := hrel
    have HB := Lib.hid hb
    have ho : Outside F w wr := Outside.of_below hb
    have k0 := HC0.out _ ho
    by_cases hlt : I < ts.length
    · obtain ⟨ga, ca, gw, cw, y, z, ea, ew, la, lw, hy, k0', k1, hay, haz, hrz, _, _, _, _⟩ := HRD.out _ ho I hlt
      obtain ⟨Fi, hFi, hown⟩ := OwnK.get HOWN.out hlt hy
      have HE := Lib.hid (fun (W : World) (h : Below wr.heap.size wr W) => eq_calls ts[I] y z W
        (Rep.mono (Nat.le_trans hb.size h.size) _ _ ((hown.rep (B := w.heap.size) _ _ _ (fun b hb => HFL.out b (hFi b hb))).below (hb.trans (h.mono hb.size)) (Nat.le_refl _)))
        (Rep.mono h.size _ _ ((hrz.rep (B := wr.heap.size) (fun b hb' => Nat.lt_of_lt_of_le (HSL.out b hb') hb.size)).below h (Nat.le_refl _))) (HFIT.out _ (List.getElem_mem hlt)))
      have i0 : (0 : Int) ≤ (I : Int) := by omega
      have i1 : (I : Int) < (ts.length : Int) := by omega
      obtain ⟨y0, y1, y2, y3, y4, y5⟩ := hay
      obtain ⟨z0, z1, z2, z3, z4, z5⟩ := haz
      simp only [TV.val, TV.cells] at HE
      clear k0 hrz hown hFi hy ho hb ea ew
      go_wp2_with fail
      refine still_tail 14 (by kernel_rfl) (by kernel_rfl) ?_
      simp only [List.take_succ_cons, List.take_zero, List.drop_succ_cons, List.drop_zero]
      repeat still_step
      refine wpStill_nil ?_
      go_wp2_with (go_at_call 11; refine (HE.out _ (Below.refl _ _).drew).mono ?_; rintro e w2 ⟨rfl, hb2⟩)
      have HB2 := Lib.hid (HB.out.drew.trans (hb2.mono HB.out.size))
      go_roundw
      case rel => exact ⟨I + 1, by omega, by go_num, HB2.out⟩
      case measure => simp [intOf]; omega
    · clear hb ho
      go_wp2_with fail
      clear k0
      have hbz := HB.out.size
      have hbk := book_new wr
      have hba := HB.out.alloc hbz (.cells #[.slice none 0 0, .slice none 0 0, .slice none 0 0, .int .i64 0] 46)
      obtain ⟨wk, hwk⟩ : ∃ wk : World, wk = wr := ⟨_, rfl⟩
      subst hwk
      generalize wk.alloc (.cells #[.slice none 0 0, .slice none 0 0, .slice none 0 0, .int .i64 0] 46) = w1 at hbk hba ⊢
      have E0 := Lib.hid (show EndsAt w w1 wk.heap.size [wk.heap.size] ts Y F F 0 from
        ⟨hbk, HOWN.out.kept (fun b hb => hba.block b (HFL.out b hb)), HFN.out, fun _ h => h, fun b hb => Nat.lt_of_lt_of_le (HFL.out b hb) hba.size, fun b hb hm => by
          have := HFL.out b hb
          simp only [List.mem_singleton] at hm
          omega, fun b hb => by
          simp only [List.mem_singleton] at hb
          exact .inr (by omega), Outside.of_below hba⟩)
      clear hbk hba
      go_loopw [5] (fun i wr => ∃ (I : Nat) (G Fr : List Nat), I ≤ ts.length ∧ i = .int .i64 I ∧ EndsAt w wr wk.heap.size G ts Y F Fr I) (fun i _ => ts.length - (intOf i).toNat)
      case atStart => exact ⟨0, [wk.heap.size], F, Nat.zero_le _, rfl, E0.out⟩
      case round =>
        obtain ⟨J, G, Fr, hJ, rfl, hrel⟩ := hrel
        have HR := Lib.hid hrel
        have ho := hrel.out
        have hwz := ho.size
        have k0 := HC0.out _ ho
        by_cases hlt2 : J < ts.length
        · obtain ⟨ga, ca, gw, cw, y, z, ea, ew, la, lw, hy, k0', k1, hay, haz, hrz, hga, hgw, hgaF, hgwF⟩ := HRD.out _ ho J hlt2
          obtain ⟨F1, F2, hF, hown, hrest⟩ := OwnK.uncons hlt2 hrel.own hy
          subst hF
          have hF1 : ∀ b ∈ F1, b < wr.heap.size := fun b hb => hrel.lt b (List.mem_append_left _ hb)
          have HE := Lib.hid (fun (W : World) (h : Below wr.heap.size wr W) => eq_calls ts[J] y z W
            (Rep.mono h.size _ _ ((hown.rep (B := wr.heap.size) _ _ _ hF1).below h (Nat.le_refl _)))
            (Rep.mono h.size _ _ ((hrz.rep (B := wr.heap.size) (fun b hb' => Nat.lt_of_lt_of_le (HSL.out b hb') hwz)).below h (Nat.le_refl _))) (HFIT.out _ (List.getElem_mem hlt2)))
          have HTK := Lib.hid (fun (W : World) (h : Below wr.heap.size wr W) (bt : Nat) (hat : At W bt 0 y) => take_calls ts[J] y F1 W wk.heap.size bt G (hrel.book.below h) (Own.kept _ _ _ hown (fun b hb => h.block b (hF1 b hb))) (List.nodup_append.1 hrel.nodup).1
            (fun b hb => hrel.apart b (List.mem_append_left _ hb)) (fun b hb => Nat.lt_of_lt_of_le (hF1 b hb) h.size) (HFIT.out _ (List.getElem_mem hlt2)).1 hat)
          have HST := Lib.hid (fun (W w2 : World) (h : Below wr.heap.size wr W) (e : Ending) (hp : TakePost W wk.heap.size G F1 e w2) => (show e = .returned (.tuple #[]) ∧ ∃ G', EndsAt w w2 wk.heap.size G' ts Y F F2 (J + 1) from by
            obtain ⟨he, G', h1, h2, h3⟩ := hp
            exact ⟨he, G', (hrel.below h).step (hrest.kept (fun b hb => h.block b (hrel.lt b (List.mem_append_right _ hb)))) h1 h2 h3⟩))
          have i0 : (0 : Int) ≤ (J : Int) := by omega
          have i1 : (J : Int) < (ts.length : Int) := by omega
          have hgar : ga < wr.heap.size := by omega
          have hplr : ps < wr.heap.size := by omega
          have HAY := Lib.hid hay
          have HK0 := Lib.hid k0'
          obtain ⟨y0, y1, y2, y3, y4, y5⟩ := hay
          obtain ⟨z0, z1, z2, z3, z4, z5⟩ := haz
          simp only [TV.val, TV.cells] at HE HTK
          clear k0 hrz hown hy ho ea ew hrel hrest hF1
          go_wp2_with fail
          refine still_tail 14 (by kernel_rfl) (by kernel_rfl) ?_
          simp only [List.take_succ_cons, List.take_zero, List.drop_succ_cons, List.drop_zero]
          repeat still_step
          refine wpStill_nil ?_
          go_wp2_with (go_at_call 11; refine (HE.out _ (Below.refl _ _).drew).mono ?_; rintro e w2 ⟨rfl, hb2⟩; have HB2 := Lib.hid ((Below.refl _ _).drew.trans hb2 : Below wr.heap.size wr w2); clear hb2 y0 y1 y2 y3 y4 y5 z0 z1 z2 z3 z4 z5 k0' k1; obtain ⟨y0, y1, y2, y3, y4, y5⟩ := HAY.out.kept (HB2.out.block ga hgar); have k0' := (cell_of_heap (HB2.out.block ps hplr)).trans HK0.out)
          have HB3 := Lib.hid (HB2.out.alloc HB2.out.size (.cells y.cells 29))
          have hbx := Box.new w2 y 29
          simp only [TV.cells] at HB3 hbx
          with_reducible refine (HTK.out _ HB3.out _ ⟨hbx.c0, hbx.c1, hbx.c2, hbx.c3, hbx.c4, hbx.c5⟩).mono ?_
          intro e w4 hp4
          obtain ⟨rfl, G', hea⟩ := HST.out _ _ HB3.out _ hp4
          have HEA := Lib.hid hea
          clear hea hp4 hbx
          go_wp2_with fail
          go_roundw
          case rel => exact ⟨J + 1, G', F2, by omega, by go_num, HEA.out⟩
          case measure => simp [intOf]; omega
        · have HW := Lib.hid (whole_calls wr wk.heap.size G hrel.book)
          clear hrel ho
          go_wp2_with fail
          refine HW.out.mono ?_
          rintro e w5 ⟨rfl, hb5⟩
          have HO := Lib.hid (HR.out.out.trans (Outside.of_below hb5 : Outside F wr w5))
          clear hb5
          go_wp2_with fail
          go_ret
          exact ⟨F, HFH.out, rfl, HO.out⟩
end Go.Proofs.YtnnhbpgpkpbinaaGreat

namespace Go.Proofs.YtnnhbpgpkpbinaaGreat
open Go.RowKit

theorem pair_at (w : World) (y z : TV) : At ((w.alloc (.cells z.cells 29)).alloc (.cells #[.int .i64 y.kind, .string y.text, .int .i64 y.n, .slice y.sa y.sl y.sc, .slice y.aa y.al y.ac, .slice y.ka y.kl y.kc, .int .i64 z.kind, .string z.text, .int .i64 z.n, .slice z.sa z.sl z.sc, .slice z.aa z.al z.ac, .slice z.ka z.kl z.kc] 29)) (w.heap.size + 1) 0 y ∧
    At ((w.alloc (.cells z.cells 29)).alloc (.cells #[.int .i64 y.kind, .string y.text, .int .i64 y.n, .slice y.sa y.sl y.sc, .slice y.aa y.al y.ac, .slice y.ka y.kl y.kc, .int .i64 z.kind, .string z.text, .int .i64 z.n, .slice z.sa z.sl z.sc, .slice z.aa z.al z.ac, .slice z.ka z.kl z.kc] 29)) (w.heap.size + 1) 6 z := by
  constructor <;> constructor <;> simp [go_sem]
theorem hru_drew {w : World} {B : Nat} {t : T} {x : TV} (h : Rep w B t x) : Rep w.drew B t x := h.below (Below.refl B w).drew (Nat.le_refl _)
theorem ofE_may {t : T} {v : Int} (h : T.ofE t v = 0) : T.may t 3 = 0 := by
  unfold T.ofE at h
  split at h
  · rename_i hm; exact absurd h hm
  · rename_i hm; exact Decidable.not_not.1 hm
theorem Box.at_ {w : World} {b : Nat} {x : TV} (h : Box w b x) : At w b 0 x := ⟨h.c0, h.c1, h.c2, h.c3, h.c4, h.c5⟩

set_option maxRecDepth 100000 in
set_option maxHeartbeats 4000000 in
theorem expandFresh_calls (l : List T) (A : Option Addr) (n c B : Nat) (w : World) (hn : n = l.length) (hn1 : n ≤ 2199023255552) (hk : KidsAt w B A l) (hB : B ≤ w.heap.size) :
    Calls Tryz.prog 5 #[.slice A n c] w fun e w' => e = .returned (.bool true) ∧ Below w.heap.size w w' := by
  have HKS := Lib.hid hk
  have HN := Lib.hid hn
  clear hk hn
  go_enter Tryz.func5, Tryz.ntmps5
  go_wp2_with fail
  refine (begun25_calls _).mono ?_
  rintro e wb ⟨rfl, hbb⟩
  have hb0 := both_new hbb
  clear hbb
  go_wp2_with fail
  obtain ⟨pb, hpb⟩ : ∃ pb, pb = wb.heap.size := ⟨_, rfl⟩
  obtain ⟨ps, hps⟩ : ∃ ps, ps = wb.heap.size + 1 := ⟨_, rfl⟩
  rw [← hps, ← hpb] at hb0 ⊢
  generalize (wb.alloc (.cells #[.slice none 0 0, .slice none 0 0, .slice none 0 0, .int .i64 0] 46)).alloc (.cells #[.slice none 0 0, .slice none 0 0, .int .i64 0] 49) = w0 at hb0 ⊢
  have HB0 := Lib.hid hb0
  clear hb0 hpb hps
  go_loopw [5] (fun i wr => ∃ (I : Nat) (G : List Nat) (H : Nat → Prop), I ≤ n ∧ i = .int .i64 I ∧ Both w wr pb ps G H) (fun i _ => n - (intOf i).toNat)
  case atStart => exact ⟨0, [pb], _, Nat.zero_le _, rfl, HB0.out⟩
  case round =>
    obtain ⟨I, G, H, hI, rfl, hrel⟩ := hrel
    have HR := Lib.hid hrel
    have HBW := Lib.hid hrel.below
    by_cases hlt : I < n
    case neg =>
      have HEN := Lib.hid (ends_calls wr ps H hrel.shelf)
      have hbook := Lib.hid (fun (W : World) (D : List Nat) (hD : ∀ b ∈ D, H b) (ho : Outside D wr W) => (⟨hrel.book.outside ho (fun b hb hm => hrel.apart b hb (hD b hm)), below_of_outside hrel.below ho (fun b hb => hrel.hnew b (hD b hb))⟩ : BookS W pb G ∧ Below w.heap.size w W))
      clear hrel
      go_wp2_with fail
      refine HEN.out.mono ?_
      rintro e w2 ⟨D, hD, rfl, ho⟩
      obtain ⟨h1, h2⟩ := hbook.out _ D hD ho
      have HWH := Lib.hid (whole_calls w2 pb G h1)
      have HB2 := Lib.hid h2
      clear ho h1 h2
      go_wp2_with fail
      refine HWH.out.mono ?_
      rintro e w3 ⟨rfl, hb3⟩
      have HB3 := Lib.hid (HB2.out.trans (hb3.mono HB2.out.size))
      clear hb3
      go_wp2_with fail
      go_ret
      exact ⟨rfl, HB3.out⟩
    have hIl : I < l.length := by rw [← HN.out]; exact hlt
    obtain ⟨b, o, y0, he, hb, hat, hru⟩ := HKS.out I l[I] (List.getElem?_eq_getElem hIl)
    generalize l[I] = t at hru
    have HAT := Lib.hid (fun (W : World) (h : Below w.heap.size w W) => hat.keep hb (Keeps.of_below h hB))
    have HRU := Lib.hid (fun (W : World) (h : Below w.heap.size w W) => hru.below h hB)
    have HRO := Lib.hid (fun (v : Int) (W : World) (h : Below w.heap.size w W) => rof_calls t y0 B v W (hru.below h hB) (Nat.le_trans hB h.size))
    subst he
    have i0 : (0 : Int) ≤ (I : Int) := by omega
    have i1 : (I : Int) < (n : Int) := by omega
    have hbl : b < wr.heap.size := by have := hrel.below.size; omega
    obtain ⟨q0, q1, q2, q3, q4, q5⟩ := HAT.out wr hrel.below
    clear hrel hat hru hIl
    go_wp2_with fail
    generalize 1 + (I : Int) % 2 = V
    have HRO1 := Lib.hid (HRO.out V wr HBW.out)
    refine HRO1.out.mono ?_
    rintro e w1 ⟨u, rfl, hru1, hb1⟩
    by_cases hE : T.ofE t V = 0
    case neg =>
      have hne : (T.ofE t V != 0) = true := by simp [hE]
      have HBR := Lib.hid ((HR.out.step hb1).step ((Below.refl _ _).alloc (Nat.le_refl _) (.cells u.cells 29)))
      simp only [TV.cells] at HBR
      clear hb1 hru1
      go_wp2_with fail
      go_roundw
      case rel => with_reducible exact ⟨I + 1, G, H, Nat.succ_le_of_lt hlt, by go_num, HBR.out⟩
      case measure => simp [intOf]; omega
    have hv : Verb t := verb_of_may (ofE_may hE)
    have hfit := hv.fits
    have HFT := Lib.hid hfit
    have HUF := Lib.hid (ofT_fits t V)
    have HSM := Lib.hid (verb_small hv)
    rw [hE]
    clear hv q0 q1 q2 q3 q4 q5
    -- the document's answer
    have hb1a := (Below.refl w1.heap.size w1).alloc (Nat.le_refl _) (.cells u.cells 29)
    have hx7 := Box.new w1 u 29
    have hu7 := hru1.below hb1a (fun _ h => h.2)
    have hz1a : (w1.alloc (.cells u.cells 29)).heap.size = w1.heap.size + 1 := World.size_alloc ..
    have hz1 := hb1.size
    have hat1 := HAT.out _ (HBW.out.trans ((hb1.trans (hb1a.mono hb1.size)).mono HBW.out.size))
    simp only [TV.cells] at hb1a hx7 hu7 hz1a hat1
    obtain ⟨q0, q1, q2, q3, q4, q5⟩ := hat1
    go_wp2_with fail
    generalize w1.alloc (.cells #[.int .i64 u.kind, .string u.text, .int .i64 u.n, .slice u.sa u.sl u.sc, .slice u.aa u.al u.ac, .slice u.ka u.kl u.kc] 29) = W1 at hb1a hx7 hu7 hz1a q0 q1 q2 q3 q4 q5 ⊢
    have C1 := Lib.hid (hb1.trans (hb1a.mono hb1.size))
    have X7 := Lib.hid hx7
    have U7 := Lib.hid hu7
    have HBW1 := Lib.hid (HBW.out.trans (C1.out.mono HBW.out.size))
    clear hb1 hb1a hx7 hu7 hru1 q0 q1 q2 q3 q4 q5
    have HLA := Lib.hid (lay_all t HSM.out HFT.out.1 y0 B W1 (HRU.out W1 HBW1.out) (Nat.le_trans hB HBW1.out.size))
    simp only [TV.val, TV.cells] at HLA
    refine HLA.out.mono ?_
    rintro e w2 ⟨yl, FL, rfl, hL, hFL, hb2⟩
    simp only [TV.val, TV.cells]
    -- the term laid
    have hb2a := (Below.refl w2.heap.size w2).alloc (Nat.le_refl _) (.cells yl.cells 29)
    have hx9 := Box.new w2 yl 29
    have hz2a : (w2.alloc (.cells yl.cells 29)).heap.size = w2.heap.size + 1 := World.size_alloc ..
    have hz2 := hb2.size
    simp only [TV.cells] at hb2a hx9 hz2a
    have LD := Lib.hid hL
    have LF := Lib.hid hFL
    have HOF := Lib.hid (fun (W : World) (h : Below w2.heap.size w2 W) => of_calls t yl w2.heap.size V W ((Laid.rep t yl FL LD.out (fun b hb => LF.out.hi b hb)).below h (Nat.le_refl _)) h.size)
    simp only [TV.val, TV.cells] at HOF
    clear hL hFL
    go_wp2_with fail
    generalize w2.alloc (.cells #[.int .i64 yl.kind, .string yl.text, .int .i64 yl.n, .slice yl.sa yl.sl yl.sc, .slice yl.aa yl.al yl.ac, .slice yl.ka yl.kl yl.kc] 29) = W2 at hb2a hx9 hz2a ⊢
    have C2 := Lib.hid (hb2.trans (hb2a.mono hb2.size))
    have D2 := Lib.hid hb2a
    have X9 := Lib.hid hx9
    clear hb2 hb2a hx9
    refine (HOF.out W2 D2.out).mono ?_
    rintro e w3 ⟨x, FX, rfl, hX, hFX, hb3⟩
    simp only [TV.val, TV.cells]
    -- the first answer
    have hb3a := (Below.refl w3.heap.size w3).alloc (Nat.le_refl _) (.cells x.cells 29)
    have hx10 := Box.new w3 x 29
    have hz3a : (w3.alloc (.cells x.cells 29)).heap.size = w3.heap.size + 1 := World.size_alloc ..
    have hz3 := hb3.size
    have hk9 := (X9.out.below hb3 X9.out.lt).below hb3a (by have := X9.out.lt; omega)
    simp only [TV.cells] at hb3a hx10 hz3a hk9
    obtain ⟨k0, k1, k2, k3, k4, k5, kf⟩ := hk9
    have XD := Lib.hid hX
    have XF := Lib.hid hFX
    clear hX hFX
    go_wp2_with fail
    generalize w3.alloc (.cells #[.int .i64 x.kind, .string x.text, .int .i64 x.n, .slice x.sa x.sl x.sc, .slice x.aa x.al x.ac, .slice x.ka x.kl x.kc] 29) = W3 at hb3a hx10 hz3a k0 k1 k2 k3 k4 k5 kf ⊢
    have C3 := Lib.hid (hb3.trans (hb3a.mono hb3.size))
    have D3 := Lib.hid hb3a
    have X10 := Lib.hid hx10
    clear hb3 hb3a hx10 k0 k1 k2 k3 k4 k5 kf
    refine (HOF.out W3 (D2.out.trans (C3.out.mono D2.out.size))).mono ?_
    rintro e w4 ⟨y, FY, rfl, hY, hFY, hb4⟩
    simp only [TV.val, TV.cells]
    -- the second
    have hb4a := (Below.refl w4.heap.size w4).alloc (Nat.le_refl _) (.cells y.cells 29)
    have hx12 := Box.new w4 y 29
    have hz4a : (w4.alloc (.cells y.cells 29)).heap.size = w4.heap.size + 1 := World.size_alloc ..
    have hz4 := hb4.size
    have hk9 := ((X9.out.below C3.out X9.out.lt).below hb4 (by have := X9.out.lt; omega)).below hb4a (by have := X9.out.lt; omega)
    simp only [TV.cells] at hb4a hx12 hz4a hk9
    obtain ⟨k0, k1, k2, k3, k4, k5, kf⟩ := hk9
    have YD := Lib.hid hY
    have YF := Lib.hid hFY
    clear hY hFY
    go_wp2_with fail
    generalize w4.alloc (.cells #[.int .i64 y.kind, .string y.text, .int .i64 y.n, .slice y.sa y.sl y.sc, .slice y.aa y.al y.ac, .slice y.ka y.kl y.kc] 29) = W4 at hb4a hx12 hz4a k0 k1 k2 k3 k4 k5 kf ⊢
    have C4 := Lib.hid (hb4.trans (hb4a.mono hb4.size))
    have D4 := Lib.hid hb4a
    have X12 := Lib.hid hx12
    clear hb4 hb4a hx12 k0 k1 k2 k3 k4 k5 kf
    refine (HOF.out W4 ((D2.out.trans (C3.out.mono D2.out.size)).trans (C4.out.mono (by omega)))).mono ?_
    rintro e w5 ⟨z, FZ, rfl, hZ, hFZ, hb5⟩
    simp only [TV.val, TV.cells]
    -- the third, and a list of the two
    have hb5a := (Below.refl w5.heap.size w5).alloc (Nat.le_refl _) (.cells z.cells 29)
    have hx14 := Box.new w5 z 29
    have hz5a : (w5.alloc (.cells z.cells 29)).heap.size = w5.heap.size + 1 := World.size_alloc ..
    have hz5 := hb5.size
    have hk12 := (X12.out.below hb5 X12.out.lt).below hb5a (by have := X12.out.lt; omega)
    simp only [TV.cells] at hb5a hx14 hz5a hk12
    obtain ⟨k0, k1, k2, k3, k4, k5, kf⟩ := hk12
    have ZD := Lib.hid hZ
    have ZF := Lib.hid hFZ
    clear hZ hFZ
    go_wp2_with fail
    have hb6 : Below w5.heap.size w5 ((w5.alloc (.cells z.cells 29)).alloc (.cells #[.int .i64 y.kind, .string y.text, .int .i64 y.n, .slice y.sa y.sl y.sc, .slice y.aa y.al y.ac, .slice y.ka y.kl y.kc, .int .i64 z.kind, .string z.text, .int .i64 z.n, .slice z.sa z.sl z.sc, .slice z.aa z.al z.ac, .slice z.ka z.kl z.kc] 29)) := by go_grown
    have hz6 : ((w5.alloc (.cells z.cells 29)).alloc (.cells #[.int .i64 y.kind, .string y.text, .int .i64 y.n, .slice y.sa y.sl y.sc, .slice y.aa y.al y.ac, .slice y.ka y.kl y.kc, .int .i64 z.kind, .string z.text, .int .i64 z.n, .slice z.sa z.sl z.sc, .slice z.aa z.al z.ac, .slice z.ka z.kl z.kc] 29)).heap.size = w5.heap.size + 2 := by simp
    have ha : At ((w5.alloc (.cells z.cells 29)).alloc (.cells #[.int .i64 y.kind, .string y.text, .int .i64 y.n, .slice y.sa y.sl y.sc, .slice y.aa y.al y.ac, .slice y.ka y.kl y.kc, .int .i64 z.kind, .string z.text, .int .i64 z.n, .slice z.sa z.sl z.sc, .slice z.aa z.al z.ac, .slice z.ka z.kl z.kc] 29)) (w5.heap.size + 1) 0 y ∧ At ((w5.alloc (.cells z.cells 29)).alloc (.cells #[.int .i64 y.kind, .string y.text, .int .i64 y.n, .slice y.sa y.sl y.sc, .slice y.aa y.al y.ac, .slice y.ka y.kl y.kc, .int .i64 z.kind, .string z.text, .int .i64 z.n, .slice z.sa z.sl z.sc, .slice z.aa z.al z.ac, .slice z.ka z.kl z.kc] 29)) (w5.heap.size + 1) 6 z := pair_at w5 y z
    simp only [TV.cells] at hb6 hz6 ha
    clear k0 k1 k2 k3 k4 k5 kf hx14 hb5a
    generalize (w5.alloc (.cells #[.int .i64 z.kind, .string z.text, .int .i64 z.n, .slice z.sa z.sl z.sc, .slice z.aa z.al z.ac, .slice z.ka z.kl z.kc] 29)).alloc (.cells #[.int .i64 y.kind, .string y.text, .int .i64 y.n, .slice y.sa y.sl y.sc, .slice y.aa y.al y.ac, .slice y.ka y.kl y.kc, .int .i64 z.kind, .string z.text, .int .i64 z.n, .slice z.sa z.sl z.sc, .slice z.aa z.al z.ac, .slice z.ka z.kl z.kc] 29) = W6 at hb6 hz6 ha ⊢
    have E4 := hb5.trans (hb6.mono hz5)
    have E3 := C4.out.trans (E4.mono C4.out.size)
    have E2 := C3.out.trans (E3.mono C3.out.size)
    have E1 := C2.out.trans (E2.mono C2.out.size)
    have E0 := C1.out.trans (E1.mono C1.out.size)
    have G2 := D2.out.trans (E2.mono D2.out.size)
    have G3 := D3.out.trans (E3.mono D3.out.size)
    have G4 := D4.out.trans (E4.mono D4.out.size)
    have HIT := Lib.hid (show Items W6 t (T.ofT t V) u yl y FL FY wr.heap.size w1.heap.size w2.heap.size w3.heap.size w4.heap.size from
      ⟨U7.out.below E1 (fun b h => by omega), Laid.kept _ _ _ LD.out (fun b hb => G2.block b (LF.out.hi b hb)), LF.out.mono (by omega) (Nat.le_refl _), Own.kept _ _ _ YD.out (fun b hb => G4.block b (YF.out.hi b hb)), YF.out.mono (by omega) (Nat.le_refl _),
       X7.out.below E1 X7.out.lt, X9.out.below E2 X9.out.lt, X12.out.below E4 X12.out.lt, by omega, by omega, by omega, by omega, by omega⟩)
    have HBO := Lib.hid (HR.out.step E0)
    have HXO := Lib.hid (show Own W6 (T.ofT t V) x FX from Own.kept _ _ _ XD.out (fun b hb => G3.block b (XF.out.hi b hb)))
    have HX10 := Lib.hid (X10.out.below E3 X10.out.lt)
    have HGL := Lib.hid (fun b (hb : b ∈ G) => HR.out.book.lt b hb)
    have HHL := Lib.hid (fun b (hb : H b) => HR.out.shelf.lt b hb)
    have HYF := Lib.hid (HIT.out.yf)
    have HKE := Lib.hid (keep_calls (T.ofT t V) y z FY FZ W6 ps (w5.heap.size + 1) H HBO.out.shelf HIT.out.oy (Own.kept _ _ _ ZD.out (fun b hb => hb6.block b (ZF.out.hi b hb)))
      (List.nodup_append.2 ⟨YF.out.nodup, ZF.out.nodup, fun a ha b hb e => by have := YF.out.hi a ha; have := ZF.out.lo b hb; omega⟩)
      (fun b hb => by
        rcases List.mem_append.1 hb with hb | hb
        · have h1 := YF.out.hi b hb
          have h2 := YF.out.lo b hb
          exact ⟨by omega, fun h => by have := HHL.out b h; omega⟩
        · have h1 := ZF.out.hi b hb
          have h2 := ZF.out.lo b hb
          exact ⟨by omega, fun h => by have := HHL.out b h; omega⟩)
      ha.1 ha.2 (fun h => by have := HHL.out _ h; omega) (by omega) HUF.out 2 rfl)
    clear E1 E2 E3 E4 G2 G3 G4 hb5 hb6 ha
    have HE0 := Lib.hid E0
    clear E0
    refine HKE.out.mono ?_
    intro e w6 hk
    have hws := HBW.out.size
    obtain ⟨rfl, H', D, hbo, ho6, hDH, hH'⟩ := HBO.out.keep hk (fun b hb => by
      rcases List.mem_append.1 hb with hb | hb
      · have h2 := YF.out.lo b hb
        exact ⟨fun h => by have := HGL.out b h; omega, by omega⟩
      · have h2 := ZF.out.lo b hb
        exact ⟨fun h => by have := HGL.out b h; omega, by omega⟩)
    have hDl : ∀ b ∈ D, b < wr.heap.size := fun b hb => HHL.out b (hDH b hb)
    have HIT6 := Lib.hid (HIT.out.out ho6 (fun b hb => .inl (hDl b hb)))
    have HXO6 := Lib.hid (HXO.out.out XF.out ho6 (fun b hb => .inl (by have := hDl b hb; omega)) (by omega))
    have HX106 := Lib.hid (HX10.out.out ho6 (fun hm => by have := hDl _ hm; omega))
    have HBO6 := Lib.hid hbo
    have HH' := Lib.hid hH'
    have hz66 := ho6.size
    clear hk hbo ho6 hDH hH' hDl HIT HXO HX10 HBO
    obtain ⟨k0, k1, k2, k3, k4, k5, kf⟩ := HX106.out
    go_wp2_with fail
    have hb7 := (Below.refl w6.heap.size w6).alloc (Nat.le_refl _) (.cells x.cells 29)
    have hx7 := (Box.new w6 x 29).at_
    have hz7 : (w6.alloc (.cells x.cells 29)).heap.size = w6.heap.size + 1 := World.size_alloc ..
    simp only [TV.cells] at hb7 hx7 hz7
    generalize w6.alloc (.cells #[.int .i64 x.kind, .string x.text, .int .i64 x.n, .slice x.sa x.sl x.sc, .slice x.aa x.al x.ac, .slice x.ka x.kl x.kc] 29) = W7 at hb7 hx7 hz7 ⊢
    have HBO7 := Lib.hid (HBO6.out.step hb7)
    have HTA := Lib.hid (take_calls (T.ofT t V) x FX W7 pb w6.heap.size G HBO7.out.book (Own.kept _ _ _ HXO6.out (fun b hb => hb7.block b (by have := XF.out.hi b hb; omega))) XF.out.nodup
      (fun b hb hm => by have := XF.out.lo b hb; have := HGL.out b hm; omega) (fun b hb => by have := XF.out.hi b hb; omega) HUF.out.1 hx7)
    have HIT7 := Lib.hid (HIT6.out.step hb7)
    clear k0 k1 k2 k3 k4 k5 kf hx7 hb7 HXO6 HX106
    refine HTA.out.mono ?_
    intro e w8 hk
    obtain ⟨rfl, G', hbo, ho8, hG'⟩ := HBO7.out.take hk (fun b hb => by
      have h1 := XF.out.lo b hb
      have h2 := XF.out.hi b hb
      refine ⟨fun hH => ?_, by omega⟩
      rcases HH'.out b hH with h | h | h
      · have := HHL.out b h; omega
      · rcases List.mem_append.1 h with h | h
        · have := YF.out.lo b h; omega
        · have := ZF.out.lo b h; omega
      · omega)
    have HIT8 := Lib.hid (HIT7.out.out ho8 (fun b hb => by
      rcases List.mem_append.1 hb with h | h
      · exact .inl (HGL.out b h)
      · have h1 := XF.out.lo b h
        have h2 := XF.out.hi b h
        exact .inr (by omega)))
    have HBO8 := Lib.hid hbo
    have HG' := Lib.hid hG'
    have hz88 := ho8.size
    clear hk hbo ho8 hG' HIT6 HIT7 HBO6 HBO7
    have HO8 := Lib.hid (of_calls t yl w2.heap.size V w8 (Laid.rep t yl FL HIT8.out.ll (fun b hb => LF.out.hi b hb)) (by omega))
    simp only [TV.val, TV.cells] at HO8
    obtain ⟨k0, k1, k2, k3, k4, k5, kf⟩ := HIT8.out.x9
    go_wp2_with fail
    refine HO8.out.mono ?_
    rintro e w9 ⟨wv, FW, rfl, hW, hFW, hb9⟩
    simp only [TV.val, TV.cells]
    clear k0 k1 k2 k3 k4 k5 kf
    have WF := Lib.hid hFW
    have HIT9 := Lib.hid (HIT8.out.step hb9)
    have HBO9 := Lib.hid (HBO8.out.step hb9)
    have hz9 := hb9.size
    have hb10 := (Below.refl w9.heap.size w9).alloc (Nat.le_refl _) (.cells wv.cells 29)
    have hx16 := Box.new w9 wv 29
    have hz10 : (w9.alloc (.cells wv.cells 29)).heap.size = w9.heap.size + 1 := World.size_alloc ..
    simp only [TV.cells] at hb10 hx16 hz10
    clear hFW hb9
    go_upto_region 17 with fail
    generalize w9.alloc (.cells #[.int .i64 wv.kind, .string wv.text, .int .i64 wv.n, .slice wv.sa wv.sl wv.sc, .slice wv.aa wv.al wv.ac, .slice wv.ka wv.kl wv.kc] 29) = W9 at hb10 hx16 hz10 ⊢
    have HW9 := Lib.hid (show Own W9 (T.ofT t V) wv FW from Own.kept _ _ _ hW (fun b hb => hb10.block b (WF.out.hi b hb)))
    have HX16 := Lib.hid hx16
    have HITA := Lib.hid (HIT9.out.step hb10)
    have HBOA := Lib.hid (HBO9.out.step hb10)
    obtain ⟨q0, q1, q2, q3, q4, q5⟩ := HAT.out W9 HBOA.out.below
    obtain ⟨k0, k1, k2, k3, k4, k5, kf⟩ := HITA.out.x9
    have hblA : b < W9.heap.size := by have := HBOA.out.below.size; omega
    have HKP := Lib.hid (kept_calls t yl y0 FL W9.drew (Laid.kept _ _ _ HITA.out.ll (fun _ _ => rfl)) LF.out.nodup (fun b hb => by have := LF.out.hi b hb; show b < W9.heap.size; omega) (Rep.mono (Nat.le_trans hB HBOA.out.below.size) _ _ (hru_drew (HRU.out W9 HBOA.out.below))) HFT.out)
    simp only [TV.val, TV.cells] at HKP
    clear hW hb10 hx16 HIT8 HIT9 HBO8 HBO9
    refine still_tail 5 (by kernel_rfl) (by kernel_rfl) ?_
    simp only [List.take_succ_cons, List.take_zero, List.drop_succ_cons, List.drop_zero]
    repeat still_step
    refine wpStill_nil ?_
    clear k0 k1 k2 k3 k4 k5 kf q0 q1 q2 q3 q4 q5
    go_wp2_with (go_at_call 12; refine HKP.out.mono ?_; rintro e w10 ⟨rfl, hk10⟩; have HKO := Lib.hid (((Outside.of_below (Below.refl _ _).drew) : Outside FL W9 W9.drew).trans hk10); clear hk10; obtain ⟨k0, k1, k2, k3, k4, k5, kf⟩ := HX16.out.out HKO.out (fun hm => (by have := LF.out.hi _ hm; omega)); obtain ⟨z0, z1, z2, z3, z4, z5, zf⟩ := HITA.out.x7.out HKO.out (fun hm => (by have := LF.out.lo _ hm; omega)))
    have hrw : Rep w10 w10.heap.size (T.ofT t V) wv := (HW9.out.out WF.out HKO.out (fun b hb => .inl (by have := LF.out.hi b hb; omega)) (by omega)).rep _ _ _ (fun b hb => by have := WF.out.hi b hb; have := HKO.out.size; omega)
    have hru : Rep w10 w10.heap.size (T.ofT t V) u := (HITA.out.ru.out HKO.out (fun b hb => .inr (by have := LF.out.lo b hb; omega)) (by have := HITA.out.o2; have := HITA.out.o3; have := HITA.out.o4; have := HITA.out.o5; omega)).rep (fun b hb => by have := HKO.out.size; omega)
    have hry : Rep w10 w10.heap.size (T.ofT t V) y := (HITA.out.oy.out HITA.out.yf HKO.out (fun b hb => .inl (by have := LF.out.hi b hb; omega)) (by have := HITA.out.o5; omega)).rep _ _ _ (fun b hb => by have := HITA.out.yf.hi b hb; have := HKO.out.size; omega)
    have hx12 := HITA.out.x12.out HKO.out (fun hm => by have := LF.out.hi _ hm; omega)
    have hx7 := HITA.out.x7.out HKO.out (fun hm => (by have := LF.out.lo _ hm; omega))
    have hbo := HBOA.out.out HKO.out (fun b hb => by
      have h1 := LF.out.lo b hb
      have h2 := LF.out.hi b hb
      refine ⟨by omega, fun hm => ?_, fun hm => ?_⟩
      · rcases HG'.out b hm with h | h
        · rcases List.mem_append.1 h with h | h
          · have := HGL.out b h; omega
          · have := XF.out.lo b h; omega
        · omega
      · rcases HH'.out b hm with h | h | h
        · have := HHL.out b h; omega
        · rcases List.mem_append.1 h with h | h
          · have := YF.out.lo b h; omega
          · have := ZF.out.lo b h; omega
        · omega)
    have HE1 := Lib.hid (eq_calls (T.ofT t V) wv u w10 hrw hru HUF.out)
    have HE2 := Lib.hid (fun (W : World) (h : Below w10.heap.size w10 W) => eq_calls (T.ofT t V) y u W (Rep.mono h.size _ _ (hry.below h (Nat.le_refl _))) (Rep.mono h.size _ _ (hru.below h (Nat.le_refl _))) HUF.out)
    have HX12 := Lib.hid hx12
    have HX7 := Lib.hid hx7
    have HBOB := Lib.hid hbo
    simp only [TV.val, TV.cells] at HE1 HE2
    clear hrw hru hry hx12 hx7 hbo k0 k1 k2 k3 k4 k5 kf z0 z1 z2 z3 z4 z5 zf
    refine HE1.out.mono ?_
    rintro e w11 ⟨rfl, hb11⟩
    have HB11 := Lib.hid hb11
    obtain ⟨k0, k1, k2, k3, k4, k5, kf⟩ := HX12.out.below hb11 HX12.out.lt
    obtain ⟨z0, z1, z2, z3, z4, z5, zf⟩ := HX7.out.below hb11 HX7.out.lt
    clear hb11
    go_wp2_with fail
    refine (HE2.out w11 HB11.out).mono ?_
    rintro e w12 ⟨rfl, hb12⟩
    have HBOC := Lib.hid ((HBOB.out.step HB11.out).step hb12)
    clear hb12 k0 k1 k2 k3 k4 k5 kf z0 z1 z2 z3 z4 z5 zf
    go_wp2_with fail
    go_roundw
    case rel => with_reducible exact ⟨I + 1, G', H', Nat.succ_le_of_lt hlt, by go_num, HBOC.out⟩
    case measure => simp [intOf]; omega
end Go.Proofs.YtnnhbpgpkpbinaaGreat

namespace Go.Proofs.YtnnhbpgpkpbinaaGreat
open Go.ChangeShapes Go.WideShapes Go.Deep Go.RowKit Go.ChangeAt
set_option linter.unusedVariables false

section
variable {H : Type} {enc : TypeId × Value → H} {w : World} {base : Nat} {sp : Nat → Bool} {hd : Bool}
/-- a list of terms that is read -/
theorem open_terms1 {n : Nat} {c5 : Value} {y4 : DataW H × List MemPlace} (f4 : DataW.trod enc Tryz.prog w base sp hd n 22 [c5] = some y4) (hw4 : ∀ k ∈ y4.1.weights Tryz.prog 22, k ≤ reachBytes) :
    ∃ (ka : Option Addr) (kl kc : Nat) (l : List T), c5 = .slice ka kl kc ∧ kl ≤ kc ∧ kl ≤ 2199023255552 ∧ kc ≤ maxLen ∧ kl = l.length ∧ KidsAt w w.heap.size ka l := by
  rcases DataW.trod_slice Tryz.underlying22 f4 with ⟨h1, h2⟩ | ⟨a, len, cap, elems, rest, q, hq, h1, ey4, _, hlc, hcm, hel, hx, _, _⟩
  · exact ⟨none, 0, 0, [], by simpa using h1, by omega, by omega, by decide, rfl, fun j u hj => by simp at hj⟩
  · rw [ey4] at hw4
    simp only [DataW.weights, Tryz.underlying22, bytes_term, List.length_map, List.mem_cons, List.mem_append] at hw4
    have hlen : len ≤ 2199023255552 := by
      have := hw4 _ (Or.inl rfl)
      unfold reachBytes at this
      omega
    have hone : ∀ i, i < len → ∃ cs' e, elems[i]? = some e ∧ e ∈ elems ∧ w.cells? base (a.add (i * 6)) 6 = some cs' ∧ DataW.trod enc Tryz.prog w base sp hd q 29 cs' = some e := by
      intro i hi
      have h3 := hx i hi
      rw [List.getElem?_eq_getElem (by omega), cells_term] at h3
      obtain ⟨cs', h4, h5⟩ := Option.bind_eq_some_iff.1 h3
      exact ⟨cs', _, List.getElem?_eq_getElem (by omega), List.getElem_mem _, h4, h5⟩
    have hplain : 0 < len → a = ⟨a.block, a.off, none⟩ ∧ a.block < w.heap.size := by
      intro h0
      obtain ⟨cs', e, _, _, h4, h5⟩ := hone 0 h0
      obtain ⟨_, hcl, hc⟩ := World.cells?_some h4
      have hc0 := hc 0 (by omega)
      rw [add_add, List.getElem?_eq_getElem (by omega)] at hc0
      exact plain_of_cell hc0
    have hall : ∀ i, i < len → ∃ tx : T × TV, At w a.block (a.off + i * 6) tx.2 ∧ Rep w w.heap.size tx.1 tx.2 ∧ a = ⟨a.block, a.off, none⟩ ∧ a.block < w.heap.size := by
      intro i hi
      obtain ⟨ea, hbl⟩ := hplain (by omega)
      obtain ⟨cs', e, _, hmem, h4, h5⟩ := hone i hi
      obtain ⟨t, x, rfl, hr⟩ := open_term q cs' _ h5 (fun k hk => hw4 k (Or.inr (Or.inl (weights_mem_all (List.mem_map_of_mem hmem) k hk))))
      have hc := (World.cells?_some h4).2.2
      rw [ea] at hc
      simp only [add_plain] at hc
      exact ⟨(t, x), ⟨hc 0 (by omega), hc 1 (by omega), hc 2 (by omega), hc 3 (by omega), hc 4 (by omega), hc 5 (by omega)⟩, hr, ea, hbl⟩
    have : Inhabited (T × TV) := ⟨(.mk 0 ByteArray.empty 0 [] [] [], ⟨0, ByteArray.empty, 0, none, 0, 0, none, 0, 0, none, 0, 0⟩)⟩
    obtain ⟨f, hf⟩ := choose_lt hall
    refine ⟨some a, len, cap, (List.range len).map fun i => (f i).1, by simpa using h1, hlc, hlen, hcm, by simp, fun j u hu => ?_⟩
    have hj : j < len := by
      have := (List.getElem?_eq_some_iff.1 hu).1
      simpa using this
    have hu' : (f j).1 = u := by simpa [hj] using hu
    obtain ⟨p1, p2, p3, p4⟩ := hf j hj
    rw [hu'] at p2
    exact ⟨a.block, a.off, (f j).2, by rw [← p3], p4, p1, p2⟩
end

set_option maxRecDepth 100000 in
theorem expandFresh_lifted (os : Os) (started : os.Started) (H : Type) (enc : TypeId × Value → H) :
    ReturnsInHanded {} Tryz.checked os 5 .any (Rows.expandFreshSpec.pre6 enc Tryz.prog Tryz.f5 Rows.expandFreshRow.domain false) (Rows.expandFreshSpec.post enc Tryz.prog Tryz.f5 false true false false) := by
  refine returnsInHanded_of_change_sized (C := Tryz.checked) own_knob started (by kernel_rfl) Tryz.func5
    (ChangeSpec.witness6 (enc := enc) (C := Tryz.checked) false ⟨#[], #[.slice none 0 0], []⟩ 8 (by kernel_rfl) (by kernel_rfl) (by kernel_rfl) (by kernel_rfl)) ?_
  intro W base args ds gs before hval0 hW _ hsz0 _
  have hval : ∀ (j : Nat) t v, Tryz.f5.params[j]? = some t → args[j]? = some v → Value.okWide Tryz.prog W .any base t v := hval0
  have hsz : (DataW.weightsEach Tryz.prog (Tryz.f5.params.toList ++ Rows.expandFreshSpec.plain.varTypes Tryz.prog) (ds ++ gs)).all (· ≤ reachBytes) = true := hsz0
  have hW' := hW
  obtain ⟨p, q, hA0, hV0, rfl, hfz, hnd⟩ := hW
  have hA : DataW.TrodAll enc Tryz.prog W 0 (fun _ => true) true Tryz.f5.params.toList args.toList ds p := hA0
  have hV : DataW.TrodVars enc Tryz.prog W (fun _ => true) [] gs q := hV0
  rw [Tryz.params5] at hA hval hsz
  obtain ⟨v0, d0, rfl, rfl, h0⟩ := trodAll_one hA
  obtain ⟨rfl, rfl⟩ := trodVars_none hV
  have h0k := h0
  obtain ⟨a0, n0, c0, rfl⟩ := okWide_slice Tryz.underlying22 (hval 0 22 v0 rfl rfl)
  obtain ⟨f0, hf0⟩ := h0
  obtain ⟨ka, kl, kc, l, e0, _, hl1, _, hll, hks⟩ := open_terms1 (show DataW.trod enc Tryz.prog W 0 (fun _ => true) true f0 22 [.slice a0 n0 c0] = some (d0, p) from hf0) (fun k hk => by simpa using List.all_eq_true.1 hsz k (DataW.weights_mem_each (j := 0) rfl rfl k hk))
  cases e0
  refine (expandFresh_calls l _ _ _ W.heap.size W hll hl1 hks (Nat.le_refl _)).mono fun e W' ⟨he, hb⟩ => ?_
  subst he
  have hlt : ∀ y ∈ p, y.block < W.heap.size := fun y hy => hW'.lt y (by simp [hy])
  exact ⟨_, rfl, post_of_below (pa := p) (pv := []) hW' (fun _ _ _ => trodAll_mk1 (shut_bool Tryz.underlying4 true))
    (fun sp hsp => trodAll_mk1 (WideElems.Trod_stays laid_out (by kernel_rfl) (of_decide_eq_true (by kernel_rfl)) h0k (fun y hy => hb.same (hlt y hy)) (fun y hy => hsp y (by simp [hy])))) (fun _ _ => rfl) (by simp) hb (ok_one (by kernel_rfl) rfl (okWide_bool_mk Tryz.underlying4 _))⟩

theorem expandFresh_holds : Rows.ExpandFreshSaid :=
  OpenClaim.holds_of_wide 5 Tryz.f5 rfl rfl rfl rfl rfl rfl rfl ⟨rfl, rfl, rfl, rfl, rfl⟩ rfl rfl rfl rfl rfl (by kernel_rfl) Tryz.func5 (by kernel_rfl)
    (of_decide_eq_true (by kernel_rfl)) (by unfold Func.isWrapper; rw [if_neg (of_decide_eq_false (by kernel_rfl))]; exact ⟨rfl, rfl⟩)
    (fun os started H enc _ => expandFresh_lifted os started H enc)
#print axioms expandFresh_holds
end Go.Proofs.YtnnhbpgpkpbinaaGreat
