/- append of a list of numbers, nil included: laws for the walk. The document's answer, package abacusref13: own. -/
import Derived.Test.YtnnhbpgpkpbinaaGreatMTwinA
import Derived.Laws.OwnMore
import Derived.Deep.AppendLies
import Derived.Deep.RegionLaw
import Derived.Test.YtnnhbpgpkpbinaaGreatMRefF
import Derived.Deep.CutRange
set_option linter.unusedVariables false
set_option linter.unusedSimpArgs false
namespace Go.Proofs.YtnnhbpgpkpbinaaGreat
open Go.RowKit

section
variable {P : Program} {w : World}
theorem run_append_zero (base : Nat) (t ty e : TypeId) (i : TypeInfo) (size c : Nat) (ht : P.underlying t = some (.slice e)) (hi : P.info? e = some i)
    (v : Value) (n : Nat) (xs : List Value) (hown : w.ownsRow base e size v n xs) :
    (Builtin.append_ #[t, t] ty #[v, .slice none 0 c]).run P w = .ok v w := by
  rcases hown.2 with ⟨rfl, rfl⟩ | ⟨g, cap, cur, rfl, _, _, hnc, _⟩
  · simp [Builtin.append_, run_underlying ht, sizeOf, typeInfo, hi, Builtin.lenOf, Builtin.firstCells]
  · simp [Builtin.append_, run_underlying ht, sizeOf, typeInfo, hi, Builtin.lenOf, Builtin.firstCells, hnc, storeCells]

theorem run_append_ints (base : Nat) (t ty e : TypeId) (i : TypeInfo) (z : Value) (ht : P.underlying t = some (.slice e)) (hi : P.info? e = some i) (hz : i.zero = some z)
    (hsize : i.size = 1) (hby : i.bytes = 8) (hzs : z.cells.size = 1) (v : Value) (n : Nat) (xs : List Value) (hown : w.ownsRow base e 1 v n xs)
    (A : Option Addr) (m c B : Nat) (ys : List Int) (hI : Ints w B A m ys) (h63 : n + m ≤ maxLen) (hbytes : (n + m) * 8 ≤ 140737488355328) (hbase : base ≤ w.heap.size) :
    ∃ v' w', (Builtin.append_ #[t, t] ty #[v, .slice A m c]).run P w = .ok v' w' ∧ w'.ownsRow base e 1 v' (n + m) (xs ++ ys.map (Value.int .i64)) ∧ w.grownBy w' v.ownBlock ∧ (v'.ownBlock = v.ownBlock ∨ v'.ownBlock = some w.heap.size) := by
  cases A with
  | none =>
    obtain rfl : m = 0 := by
      by_cases h0 : m = 0
      · exact h0
      · obtain ⟨b, o, e, _⟩ := hI.2 (by omega); cases e
    obtain rfl : ys = [] := List.eq_nil_of_length_eq_zero hI.1
    exact ⟨v, w, run_append_zero base t ty e i 1 c ht hi v n xs hown, by simpa using hown, World.grownBy.refl _ _, .inl rfl⟩
  | some a =>
    have hnews : ∀ j u, (ys.map (Value.int .i64))[j]? = some u → w.cell? (a.add j) = some u := by
      by_cases h0 : m = 0
      · obtain rfl : ys = [] := List.eq_nil_of_length_eq_zero (hI.1.trans h0)
        intro j u hu; simp at hu
      · obtain ⟨b, o, e, _⟩ := hI.2 (by omega)
        cases e
        exact hI.news
    obtain ⟨v', w', h1, h2, h3, _, h5⟩ := run_append_own_at (P := P) w base t ty e i z 1 8 ht hi hz hsize hby hzs (by decide) v n xs hown a m c (ys.map (Value.int .i64)) (by rw [List.length_map, hI.1]; omega) hnews (ints_one _ _) h63 hbytes hbase
    exact ⟨v', w', h1, h2, h3, h5⟩

theorem wp_append_ints {o : Oper} {a : Act} {K : Act → World → Prop} {Q : Exit → Act → World → Prop} (s x : Operand) (t : TypeId)
    (ho : o.op = .call { callee := .builtin .append, args := #[s, x], argTypes := #[t, t] })
    (base : Nat) (e : TypeId) (i : TypeInfo) (z : Value) (ht : P.underlying t = some (.slice e)) (hi : P.info? e = some i) (hz : i.zero = some z)
    (hsize : i.size = 1) (hby : i.bytes = 8) (hzs : z.cells.size = 1) (v : Value) (n : Nat) (xs : List Value) (hs : a.eval s = v) (hown : w.ownsRow base e 1 v n xs)
    (A : Option Addr) (m c B : Nat) (ys : List Int) (hx : a.eval x = .slice A m c) (hI : Ints w B A m ys) (h63 : n + m ≤ maxLen) (hbytes : (n + m) * 8 ≤ 140737488355328) (hbase : base ≤ w.heap.size)
    (h : ∀ v' w', w'.ownsRow base e 1 v' (n + m) (xs ++ ys.map (Value.int .i64)) → w.grownBy w' v.ownBlock → (v'.ownBlock = v.ownBlock ∨ v'.ownBlock = some w.heap.size) → K (a.put o.dst v') w') :
    Oper.wp P o a w K Q := by
  obtain ⟨v', w', hr, h2, h3, h4⟩ := run_append_ints (P := P) base t o.type e i z ht hi hz hsize hby hzs v n xs hown A m c B ys hI h63 hbytes hbase
  unfold Oper.wp execOp
  simp only [ho, resolve, invoke, builtin, Sem.run_bind, Sem.run_pure, Result.andThen_ok, List.map_toArray, List.map_cons, List.map_nil, hs, hx, hr]
  exact h v' w' h2 h3 h4
/-- at a step of a region that draws its order -/
theorem step_append_ints {ops : Array Oper} {o : Oper} {a : Act} {K : Act → World → Prop} {Q : Exit → Act → World → Prop} {E : Prop} (hgd : o.guard = none) (s x : Operand) (t : TypeId)
    (ho : o.op = .call { callee := .builtin .append, args := #[s, x], argTypes := #[t, t] })
    (base : Nat) (e : TypeId) (i : TypeInfo) (z : Value) (ht : P.underlying t = some (.slice e)) (hi : P.info? e = some i) (hz : i.zero = some z)
    (hsize : i.size = 1) (hby : i.bytes = 8) (hzs : z.cells.size = 1) (v : Value) (n : Nat) (xs : List Value) (hs : a.eval s = v) (hown : w.ownsRow base e 1 v n xs)
    (A : Option Addr) (m c B : Nat) (ys : List Int) (hx : a.eval x = .slice A m c) (hI : Ints w B A m ys) (h63 : n + m ≤ maxLen) (hbytes : (n + m) * 8 ≤ 140737488355328) (hbase : base ≤ w.heap.size)
    (h : ∀ v' w', w'.ownsRow base e 1 v' (n + m) (xs ++ ys.map (Value.int .i64)) → w.grownBy w' v.ownBlock → (v'.ownBlock = v.ownBlock ∨ v'.ownBlock = some w.heap.size) → K (a.put o.dst v') w') :
    if Region.wanted o (yielded ops a.tmps) = true then Oper.wp P o a w K Q else E := by
  have hw : Region.wanted o (yielded ops a.tmps) = true := by simp [Region.wanted, hgd]
  rw [if_pos hw]
  exact wp_append_ints s x t ho base e i z ht hi hz hsize hby hzs v n xs hs hown A m c B ys hx hI h63 hbytes hbase h
end
/-- a row of numbers of the call's own, as a slice -/
theorem row_form {w : World} {base e n : Nat} {v : Value} {xs : List Int} (h : w.ownsRow base e 1 v n (xs.map (Value.int .i64))) :
    ∃ A c, v = .slice A n c ∧ n ≤ c ∧ c ≤ maxLen ∧ ∀ S : Nat → Prop, (∀ g, v.ownBlock = some g → S g) → xs.length = n ∧ (0 < n → ∃ b o, A = some ⟨b, o, none⟩ ∧ S b ∧ ∀ (i : Nat) (u : Int), xs[i]? = some u → w.cell? ⟨b, o + i, none⟩ = some (.int .i64 u)) := by
  have h' := h
  obtain ⟨hl, ⟨rfl, rfl⟩ | ⟨g, cap, cur, rfl, hg, hcur, h4, h5, h6, h7⟩⟩ := h
  · exact ⟨none, 0, rfl, Nat.le_refl _, Nat.zero_le _, fun _ _ => ⟨by simpa using hl, fun h => absurd h (by omega)⟩⟩
  · refine ⟨some ⟨g, 0, none⟩, cap, rfl, h4, h5, fun S hS => ⟨by simpa using hl, fun _ => ⟨g, 0, rfl, hS g rfl, fun i u hu => ?_⟩⟩⟩
    have hlt := (List.getElem?_eq_some_iff.1 hu).1
    rw [Nat.zero_add, h'.cellAt i (by simp at hl; omega), List.getElem?_map, hu]
    rfl
end Go.Proofs.YtnnhbpgpkpbinaaGreat

namespace Go.Proofs.YtnnhbpgpkpbinaaGreat
open Go.RowKit

theorem below_grown_none {B : Nat} {a b c : World} (h : Below B a b) (g : b.grownBy c none) (hB : B ≤ b.heap.size) : Below B a c := h.grown g hB (fun _ e => by cases e)
/-- a list of terms that grows in a field of a variable: at a round's head -/
structure PickG (w w0 : World) (S : Nat → Prop) (tb : Nat) (x : TV) (l : List T) (k : Nat) (wr : World) (A : Option Addr) (c : Nat) (ys : List TV) : Prop where
  below : Below w.heap.size w wr
  size : w0.heap.size ≤ wr.heap.size
  old : ∀ b, b < w0.heap.size → b ≠ tb → wr.heap[b]? = w0.heap[b]?
  box : Box wr tb { x with ka := A, kl := k, kc := c }
  row : wr.ownsRow w0.heap.size 29 6 (.slice A k c) k (rowCells ys)
  len : ys.length = k
  reps : ∀ (j : Nat) (u : T), j < k → l[j]? = some u → ∃ y, ys[j]? = some y ∧ RepS wr (fun b => S b ∨ (w0.heap.size ≤ b ∧ b < wr.heap.size ∧ (Value.slice A k c).ownBlock ≠ some b)) u y
theorem PickG.next {w w0 wr W w4 w5 : World} {S : Nat → Prop} {tb : Nat} {x : TV} {l : List T} {k c g cap : Nat} {A : Option Addr} {ys : List TV} {u : T} {z : TV} (hP : PickG w w0 S tb x l k wr A c ys) (hS : ∀ b, S b → b < w.heap.size) (ht : w.heap.size ≤ tb) (htb : tb < w0.heap.size) (hW : W.heap.size = wr.heap.size) (hu : l[k]? = some u)
    (hb4 : Below wr.heap.size wr w4) (hr : RepS w4 (Adds S W w4) u z) (hgrow : (w4.alloc (.cells z.cells 29)).grownBy w5 (Value.ownBlock (.slice A k c)))
    (hown : w5.ownsRow w0.heap.size 29 6 (.slice (some ⟨g, 0, none⟩) (k + 1) cap) (k + 1) (rowCells ys ++ z.cells.toList)) (hat : Value.ownBlock (.slice A k c) = some g ∨ g = w4.heap.size + 1) :
    PickG w w0 S tb x l (k + 1) (w5.setCell ⟨tb, 5, none⟩ (.slice (some ⟨g, 0, none⟩) (k + 1) cap)) (some ⟨g, 0, none⟩) cap (ys ++ [z]) := by
  have hbc : Below wr.heap.size wr (w4.alloc (.cells z.cells 29)) := hb4.alloc hb4.size _
  have hlt := hP.row.lt
  have hz := hP.box.lt
  have hws := hP.below.size
  have h0s := hP.size
  have h4s := hb4.size
  have h5s := hgrow.size
  rw [World.size_alloc] at h5s
  have ne1 : some tb ≠ Value.ownBlock (.slice A k c) := fun e => by have := (hlt _ e.symm).1; omega
  have bx := (hP.box.below hbc hP.box.lt).grown hgrow ne1
  have hs : (w5.setCell ⟨tb, 5, none⟩ (.slice (some ⟨g, 0, none⟩) (k + 1) cap)).heap.size = w5.heap.size := by simp [World.setCell]
  have hk5 : ∀ b, b < w4.heap.size → some b ≠ Value.ownBlock (.slice A k c) → b ≠ tb → (w5.setCell ⟨tb, 5, none⟩ (.slice (some ⟨g, 0, none⟩) (k + 1) cap)).heap[b]? = w4.heap[b]? := by
    intro b h1 h2 h3
    refine (Below.heap_setCell _ _ _ _ h3).trans ((hgrow.block b (by simp; omega) h2).trans ?_)
    exact ((Below.refl w4.heap.size w4).alloc (Nat.le_refl _) _).block b h1
  have hkr : ∀ b, b < wr.heap.size → w4.heap[b]? = wr.heap[b]? := fun b h => hb4.block b h
  refine ⟨((hP.below.trans (hbc.mono hP.below.size)).grown hgrow (by have := hP.below.size; have := hbc.size; omega) (fun q e => by have := (hlt q e).1; omega)).setCell (by show w.heap.size ≤ tb; omega) _, by rw [hs]; omega, ?_, ?_, ?_, by simp [hP.len], ?_⟩
  · intro b hb hne
    exact (hk5 b (by omega) (fun e => by have := (hlt b e.symm).1; omega) hne).trans ((hkr b (by omega)).trans (hP.old b hb hne))
  · exact bx.set5 (some ⟨g, 0, none⟩) (k + 1) cap
  · rw [rowCells_snoc]
    exact ownsRow_setCell_below hown htb _
  · intro j v hj hv
    by_cases hjk : j < k
    · obtain ⟨y, hy, hry⟩ := hP.reps j v hjk hv
      refine ⟨y, by rw [List.getElem?_append_left (by rw [hP.len]; exact hjk)]; exact hy, RepS.keep (fun b o hb => cell_of_heap ?_) (fun b hb => ?_) _ _ hry⟩
      · have hbs : b < wr.heap.size := by
          rcases hb with h | h
          · have := hS b h; omega
          · exact h.2.1
        refine (hk5 b (by omega) ?_ ?_).trans (hkr b hbs)
        · rcases hb with h | h
          · intro e; have := (hlt b e.symm).1; have := hS b h; omega
          · exact fun e => h.2.2 e.symm
        · rcases hb with h | h
          · have := hS b h; omega
          · omega
      · rcases hb with h | h
        · exact .inl h
        · refine .inr ⟨h.1, by rw [hs]; omega, fun e => ?_⟩
          have e : g = b := by simpa [Value.ownBlock] using e
          rcases hat with h' | h'
          · exact h.2.2 (by rw [h', e])
          · have := h.2.1; omega
    · obtain rfl : j = k := by omega
      rw [hu] at hv
      cases hv
      refine ⟨z, by rw [List.getElem?_append_right (by rw [hP.len]; exact Nat.le_refl _), hP.len]; simp, RepS.keep (fun b o hb => cell_of_heap ?_) (fun b hb => ?_) _ _ hr⟩
      · refine hk5 b ?_ ?_ ?_
        · rcases hb with h | h
          · have := hS b h; omega
          · exact h.2
        · rcases hb with h | h
          · intro e; have := (hlt b e.symm).1; have := hS b h; omega
          · intro e; have := (hlt b e.symm).2; rw [hW] at h; omega
        · rcases hb with h | h
          · have := hS b h; omega
          · rw [hW] at h; omega
      · rcases hb with h | h
        · exact .inl h
        · rw [hW] at h
          refine .inr ⟨by omega, by rw [hs]; omega, fun e => ?_⟩
          have e : g = b := by simpa [Value.ownBlock] using e
          rcases hat with h' | h'
          · have := (hlt g h').2; omega
          · omega
theorem PickG.start {w w0 : World} {S : Nat → Prop} {tb : Nat} {x : TV} {l : List T} (hb : Below w.heap.size w w0) (hx : Box w0 tb { x with ka := none, kl := 0, kc := 0 }) : PickG w w0 S tb x l 0 w0 none 0 [] :=
  ⟨hb, Nat.le_refl _, fun _ _ _ => rfl, hx, World.ownsRow_nil _ _ _ _, rfl, fun j u h => absurd h (by omega)⟩
/-- the kids as they lie in the end -/
theorem PickG.kids {w w0 wr : World} {S : Nat → Prop} {tb : Nat} {x : TV} {l : List T} {k c : Nat} {A : Option Addr} {ys : List TV} (hP : PickG w w0 S tb x l k wr A c ys) (hk : k = l.length) :
    k ≤ c ∧ c ≤ maxLen ∧ ∀ (j : Nat) (u : T), l[j]? = some u → ∃ b o y, A = some ⟨b, o, none⟩ ∧ (w0.heap.size ≤ b ∧ b < wr.heap.size) ∧ At wr b (o + j * 6) y ∧ RepS wr (fun b => S b ∨ (w0.heap.size ≤ b ∧ b < wr.heap.size)) u y := by
  have hrow := hP.row
  obtain ⟨hl, ⟨e, h0⟩ | ⟨g, cap, cur, e, hg, hcur, hnc, hc, hs, ht⟩⟩ := hrow
  · cases e
    exact ⟨Nat.le_refl _, Nat.zero_le _, fun j u hj => by have := (List.getElem?_eq_some_iff.1 hj).1; omega⟩
  · cases e
    obtain ⟨hg1, hg2, hat⟩ := row_at hP.row
    refine ⟨hnc, hc, fun j u hj => ?_⟩
    have hjk : j < k := by rw [hk]; exact (List.getElem?_eq_some_iff.1 hj).1
    obtain ⟨y, hy, hr⟩ := hP.reps j u hjk hj
    exact ⟨g, 0, y, rfl, ⟨hg1, hg2⟩, by rw [Nat.zero_add]; exact hat j y hy, hr.mono (fun b h => h.imp id (fun h => ⟨h.1, h.2.1⟩))⟩
def NoS : Nat → Prop := fun _ => False
theorem noS_lt {n : Nat} : ∀ b, NoS b → b < n := fun _ h => False.elim h
def OwnRef (t : T) : Prop := t.nodes ≤ 4096 → ∀ (x : TV) (B : Nat) (w : World), Rep w B t x → B ≤ w.heap.size → Calls Tryz.prog 47 #[x.val] w (TermPost NoS t w)
theorem ints_own {w1 : World} {base ty n m : Nat} {v : Value} {A : Option Addr} {xs : List Int} {zs : List Value} (ho : w1.ownsRow base ty 1 v m zs)
    (hf : ∀ S : Nat → Prop, (∀ g, v.ownBlock = some g → S g) → xs.length = n ∧ (0 < n → ∃ b o, A = some ⟨b, o, none⟩ ∧ S b ∧ ∀ (i : Nat) (u : Int), xs[i]? = some u → w1.cell? ⟨b, o + i, none⟩ = some (.int .i64 u))) :
    IntsS w1 (fun b => base ≤ b ∧ b < w1.heap.size) A n xs := hf _ (fun g e => ho.lt g e)
/-- the two lists copied -/
structure OwnNums (w wq : World) (x : TV) (sh a : List Int) (A1 : Option Addr) (c1 : Nat) (A2 : Option Addr) (c2 : Nat) : Prop where
  below : Below w.heap.size w wq
  size : w.heap.size + 2 ≤ wq.heap.size
  box : Box wq w.heap.size { x with sa := A1, sc := c1, aa := A2, ac := c2 }
  res : Box wq (w.heap.size + 1) zeroTV
  i1 : IntsS wq (fun b => w.heap.size + 2 ≤ b ∧ b < wq.heap.size) A1 x.sl sh
  i2 : IntsS wq (fun b => w.heap.size + 2 ≤ b ∧ b < wq.heap.size) A2 x.al a
theorem OwnNums.make {w w2 : World} {x : TV} {sh a : List Int} {A1 A2 : Option Addr} {c1 c2 : Nat} (hb : Below w.heap.size w w2) (hz : w.heap.size + 2 ≤ w2.heap.size) (hx : Box w2 w.heap.size x) (hr : Box w2 (w.heap.size + 1) zeroTV)
    (h1 : IntsS w2 (fun b => w.heap.size + 2 ≤ b ∧ b < w2.heap.size) A1 x.sl sh) (h2 : IntsS w2 (fun b => w.heap.size + 2 ≤ b ∧ b < w2.heap.size) A2 x.al a) :
    OwnNums w ((w2.setCell ⟨w.heap.size, 3, none⟩ (.slice A1 x.sl c1)).setCell ⟨w.heap.size, 4, none⟩ (.slice A2 x.al c2)) x sh a A1 c1 A2 c2 := by
  have hs : ((w2.setCell ⟨w.heap.size, 3, none⟩ (.slice A1 x.sl c1)).setCell ⟨w.heap.size, 4, none⟩ (.slice A2 x.al c2)).heap.size = w2.heap.size := by simp [World.setCell]
  have hk : ∀ b o, w.heap.size + 2 ≤ b ∧ b < w2.heap.size → ((w2.setCell ⟨w.heap.size, 3, none⟩ (.slice A1 x.sl c1)).setCell ⟨w.heap.size, 4, none⟩ (.slice A2 x.al c2)).cell? ⟨b, o, none⟩ = w2.cell? ⟨b, o, none⟩ :=
    fun b o h => cell_of_heap ((Below.heap_setCell _ _ _ _ (by show b ≠ w.heap.size; omega)).trans (Below.heap_setCell _ _ _ _ (by show b ≠ w.heap.size; omega)))
  refine ⟨(hb.setCell (Nat.le_refl _) _).setCell (Nat.le_refl _) _, by rw [hs]; exact hz, (hx.set3 A1 x.sl c1).set4 A2 x.al c2, (hr.other (by omega) _).other (by omega) _, ?_, ?_⟩
  · exact h1.keep hk (fun b h => by rw [hs]; exact h)
  · exact h2.keep hk (fun b h => by rw [hs]; exact h)
theorem IntsS.grown {w w' : World} {base : Nat} {A : Option Addr} {n : Nat} {xs : List Int} (h : IntsS w (fun b => base ≤ b ∧ b < w.heap.size) A n xs) (hg : w.grownBy w' none) : IntsS w' (fun b => base ≤ b ∧ b < w'.heap.size) A n xs :=
  h.keep (fun b o hb => cell_of_heap (hg.block b hb.2 (by simp))) (fun b hb => ⟨hb.1, Nat.lt_of_lt_of_le hb.2 hg.size⟩)
theorem RepS.make {w : World} {S : Nat → Prop} {k : Int} {s : ByteArray} {n : Int} {sh a : List Int} {l : List T} {x : TV} (hw : Wee x) (h1 : x.kind = k) (h2 : x.text = s) (h3 : x.n = n) (h4 : IntsS w S x.sa x.sl sh) (h5 : IntsS w S x.aa x.al a) (h6 : x.kl = l.length)
    (h7 : ∀ (j : Nat) (u : T), l[j]? = some u → ∃ b o y, x.ka = some ⟨b, o, none⟩ ∧ S b ∧ At w b (o + j * 6) y ∧ RepS w S u y) : RepS w S (.mk k s n sh a l) x := (RepS_iff _ _ _ _).2 ⟨hw, h1, h2, h3, h4, h5, h6, h7⟩

theorem OwnNums.nil {w wq : World} {x : TV} {sh a : List Int} {A1 A2 : Option Addr} {c1 c2 : Nat} (h : OwnNums w wq x sh a A1 c1 A2 c2) (l : List T) :
    PickG w (wq.setCell ⟨w.heap.size, 5, none⟩ (.slice none 0 0)) NoS w.heap.size ⟨x.kind, x.text, x.n, A1, x.sl, c1, A2, x.al, c2, none, 0, 0⟩ l 0 (wq.setCell ⟨w.heap.size, 5, none⟩ (.slice none 0 0)) none 0 [] ∧
    w.heap.size + 2 ≤ (wq.setCell ⟨w.heap.size, 5, none⟩ (.slice none 0 0)).heap.size ∧ Box (wq.setCell ⟨w.heap.size, 5, none⟩ (.slice none 0 0)) (w.heap.size + 1) zeroTV ∧
    IntsS (wq.setCell ⟨w.heap.size, 5, none⟩ (.slice none 0 0)) (fun b => w.heap.size + 2 ≤ b ∧ b < (wq.setCell ⟨w.heap.size, 5, none⟩ (.slice none 0 0)).heap.size) A1 x.sl sh ∧
    IntsS (wq.setCell ⟨w.heap.size, 5, none⟩ (.slice none 0 0)) (fun b => w.heap.size + 2 ≤ b ∧ b < (wq.setCell ⟨w.heap.size, 5, none⟩ (.slice none 0 0)).heap.size) A2 x.al a := by
  have hs : (wq.setCell ⟨w.heap.size, 5, none⟩ (.slice none 0 0)).heap.size = wq.heap.size := by simp [World.setCell]
  have hk : ∀ b o, w.heap.size + 2 ≤ b ∧ b < wq.heap.size → (wq.setCell ⟨w.heap.size, 5, none⟩ (.slice none 0 0)).cell? ⟨b, o, none⟩ = wq.cell? ⟨b, o, none⟩ :=
    fun b o h => cell_of_heap (Below.heap_setCell _ _ _ _ (by show b ≠ w.heap.size; omega))
  refine ⟨PickG.start (h.below.setCell (Nat.le_refl _) _) (h.box.set5 none 0 0), by rw [hs]; exact h.size, h.res.other (by omega) _, ?_, ?_⟩
  · exact h.i1.keep hk (fun b h => by rw [hs]; exact h)
  · exact h.i2.keep hk (fun b h => by rw [hs]; exact h)
theorem own_ends {w w0 wr : World} {x : TV} {k : Int} {s : ByteArray} {n : Int} {sh a : List Int} {l : List T} {A1 A2 A : Option Addr} {c1 c2 c B K : Nat} {ys : List TV} (hr : Rep w B (.mk k s n sh a l) x) (hK : K = x.kl) (hP : PickG w w0 NoS w.heap.size ⟨x.kind, x.text, x.n, A1, x.sl, c1, A2, x.al, c2, none, 0, 0⟩ l K wr A c ys)
    (hz : w.heap.size + 2 ≤ w0.heap.size) (i1 : IntsS w0 (fun b => w.heap.size + 2 ≤ b ∧ b < w0.heap.size) A1 x.sl sh) (i2 : IntsS w0 (fun b => w.heap.size + 2 ≤ b ∧ b < w0.heap.size) A2 x.al a)
    (h1 : x.sl ≤ c1) (h2 : c1 ≤ maxLen) (h3 : x.al ≤ c2) (h4 : c2 ≤ maxLen) :
    RepS wr (fun b => NoS b ∨ (w.heap.size + 2 ≤ b ∧ b < wr.heap.size)) (.mk k s n sh a l) { x with sa := A1, sc := c1, aa := A2, ac := c2, ka := A, kl := K, kc := c } := by
  have hw := hr.wee
  have hkl := hr.kl
  simp only [T.kids_mk] at hkl
  obtain ⟨h5, h6, h7⟩ := hP.kids (hK.trans hkl)
  have hs := hP.size
  have hk : ∀ b o, w.heap.size + 2 ≤ b ∧ b < w0.heap.size → wr.cell? ⟨b, o, none⟩ = w0.cell? ⟨b, o, none⟩ := fun b o h => cell_of_heap (hP.old b h.2 (by omega))
  refine RepS.make ⟨hw.k0, hw.k1, hw.n0, hw.n1, hw.ts, h1, h3, h5, hw.s1, hw.a1, by show K ≤ _; rw [hK]; exact hw.l1, h2, h4, h6⟩ hr.kind hr.text hr.n ?_ ?_ (hK.trans hkl) ?_
  · exact i1.keep hk (fun b h => .inr ⟨h.1, by omega⟩)
  · exact i2.keep hk (fun b h => .inr ⟨h.1, by omega⟩)
  · intro j u hj
    obtain ⟨b, o, y, e, hb, hat, hry⟩ := h7 j u hj
    exact ⟨b, o, y, e, .inr ⟨by omega, hb.2⟩, hat, hry.mono (fun b h => h.imp id (fun h => ⟨by omega, h.2⟩))⟩

set_option maxRecDepth 100000 in
set_option maxHeartbeats 4000000 in
theorem own_ref (t : T) : OwnRef t := by
  refine T.ind (P := OwnRef) ?_ t
  intro k s n sh a l ih hn x B w hr hB
  have hl4 : l.length ≤ 4096 := by have := T.length_le_nodes l; simp only [T.nodes] at hn; omega
  have hkl : x.kl = l.length := hr.kl
  have hk4 : x.kl ≤ 4096 := by omega
  have hs1 := hr.wee.s1
  have ha1 := hr.wee.a1
  have HS := Lib.hid (fun (W : World) (h : Below w.heap.size w W) => hr.shape.keep (Keeps.of_below h hB))
  have HA := Lib.hid (fun (W : World) (h : Below w.heap.size w W) => hr.atoms.keep (Keeps.of_below h hB))
  simp only [T.shape_mk, T.atoms_mk] at HS HA
  have HKL := Lib.hid hkl
  have HR := Lib.hid hr
  have HIH := Lib.hid ih
  have HB0 := Lib.hid (two_below w x)
  have X0 := two_box w x
  have R0 := Lib.hid (two_res w x)
  have hz0 : w.heap.size + 2 ≤ (two w x).heap.size := Nat.le_of_eq (two_size w x).symm
  have HZ0 := Lib.hid hz0
  have HX0 := Lib.hid X0
  clear hr ih X0 hz0 hkl
  simp only [TV.val, TV.cells]
  obtain ⟨i0, hi0, hz0, hz1, hz2⟩ := info_parts info_int0
  obtain ⟨j0, hj0, hy0, hy1, hy2⟩ := info_parts info_int640
  go_enter Tryz.func47, Tryz.ntmps47
  go_upto_region 1 with fail
  go_cut [] from 5 to 14 (fun wq => ∃ A1 c1 A2 c2, OwnNums w wq x sh a A1 c1 A2 c2 ∧ x.sl ≤ c1 ∧ c1 ≤ maxLen ∧ x.al ≤ c2 ∧ c2 ≤ maxLen)
  case first =>
   go_region_law (first
    | (refine step_append_ints (by rfl) _ _ 23 (by rfl) (w.heap.size + 2) 3 i0 (.int .i64 0) Tryz.underlying23 hi0 hz0 hz1 hz2 (by rfl) (.slice none 0 0) 0 [] (by rfl) (World.ownsRow_nil _ _ _ _) x.sa x.sl x.sc B sh (by rfl) (HS.out _ (by first | exact HB0.out | exact HB0.out.drew | exact HB2.out)) (by unfold maxLen; omega) (by omega) (by first | exact HZ0.out | exact hq2) ?_; intro v1 w1 hown1 hgrow1 _; have HB1 := Lib.hid (show Below w.heap.size w w1 from by first | exact below_grown_none HB0.out hgrow1 HB0.out.size | exact below_grown_none HB0.out.drew hgrow1 HB0.out.size | exact below_grown_none HB2.out hgrow1 HB2.out.size); have hq1 : w.heap.size + 2 ≤ w1.heap.size := (by first | exact Nat.le_trans HZ0.out hgrow1.size | exact Nat.le_trans hq2 hgrow1.size); have X1 : Box w1 w.heap.size x := (by first | exact HX0.out.grown hgrow1 (by simp [Value.ownBlock]) | exact HX0.out.drew.grown hgrow1 (by simp [Value.ownBlock]) | exact HX2.out.grown hgrow1 (by simp [Value.ownBlock])); have HX1 := Lib.hid X1; have RR1 := Lib.hid (show Box w1 (w.heap.size + 1) zeroTV from by first | exact R0.out.grown hgrow1 (by simp [Value.ownBlock]) | exact R0.out.drew.grown hgrow1 (by simp [Value.ownBlock]) | exact RR2.out.grown hgrow1 (by simp [Value.ownBlock])); obtain ⟨k0, k1, k2, k3, k4, k5, kf⟩ := X1; obtain ⟨A1, c1, rfl, hc1, hm1, hrf1⟩ := row_form (xs := sh) (n := x.sl) (by simpa using hown1); have HF1 := Lib.hid (ints_own hown1 hrf1); clear hrf1; have HG1 := Lib.hid (show w1.grownBy w1 none from World.grownBy.refl _ _); have HI2 := Lib.hid (show True ∨ True from .inl trivial); (try have HI2 := Lib.hid (IntsS.grown HF2.out hgrow1)); clear hgrow1 hown1)
    | (refine step_append_ints (by rfl) _ _ 25 (by rfl) (w.heap.size + 2) 2 j0 (.int .i64 0) Tryz.underlying25 hj0 hy0 hy1 hy2 (by rfl) (.slice none 0 0) 0 [] (by rfl) (World.ownsRow_nil _ _ _ _) x.aa x.al x.ac B a (by rfl) (HA.out _ (by first | exact HB0.out | exact HB0.out.drew | exact HB1.out)) (by unfold maxLen; omega) (by omega) (by first | exact HZ0.out | exact hq1) ?_; intro v2 w2 hown2 hgrow2 _; have HB2 := Lib.hid (show Below w.heap.size w w2 from by first | exact below_grown_none HB0.out hgrow2 HB0.out.size | exact below_grown_none HB0.out.drew hgrow2 HB0.out.size | exact below_grown_none HB1.out hgrow2 HB1.out.size); have hq2 : w.heap.size + 2 ≤ w2.heap.size := (by first | exact Nat.le_trans HZ0.out hgrow2.size | exact Nat.le_trans hq1 hgrow2.size); have X2 : Box w2 w.heap.size x := (by first | exact HX0.out.grown hgrow2 (by simp [Value.ownBlock]) | exact HX0.out.drew.grown hgrow2 (by simp [Value.ownBlock]) | exact HX1.out.grown hgrow2 (by simp [Value.ownBlock])); have HX2 := Lib.hid X2; have RR2 := Lib.hid (show Box w2 (w.heap.size + 1) zeroTV from by first | exact R0.out.grown hgrow2 (by simp [Value.ownBlock]) | exact R0.out.drew.grown hgrow2 (by simp [Value.ownBlock]) | exact RR1.out.grown hgrow2 (by simp [Value.ownBlock])); obtain ⟨k0, k1, k2, k3, k4, k5, kf⟩ := X2; obtain ⟨A2, c2, rfl, hc2, hm2, hrf2⟩ := row_form (xs := a) (n := x.al) (by simpa using hown2); have HF2 := Lib.hid (ints_own hown2 hrf2); clear hrf2; have HG2 := Lib.hid (show w2.grownBy w2 none from World.grownBy.refl _ _); have HI1 := Lib.hid (show True ∨ True from .inl trivial); (try have HI1 := Lib.hid (IntsS.grown HF1.out hgrow2)); clear hgrow2 hown2))
   all_goals
    have HN := Lib.hid (by first
      | exact OwnNums.make (c1 := c1) (c2 := c2) HB2.out hq2 HX2.out RR2.out HI1.out HF2.out
      | exact OwnNums.make (c1 := c1) (c2 := c2) HB1.out hq1 HX1.out RR1.out HF1.out HI2.out)
    go_wp2_with fail
    go_meet
    case rel => exact ⟨A1, c1, A2, c2, HN.out, hc1, hm1, hc2, hm2⟩
  case rest =>
    obtain ⟨A1, c1, A2, c2, hnn, hc1, hm1, hc2, hm2⟩ := hcut
    have HN := Lib.hid hnn
    clear hnn
    have hnil := HN.out.nil l
    obtain ⟨k0, k1, k2, k3, k4, k5, kf⟩ := HN.out.box
    simp only at k0 k1 k2 k3 k4 k5
    go_wp2_with fail
    clear k0 k1 k2 k3 k4 k5 kf
    generalize wc.setCell ⟨w.heap.size, 5, none⟩ (.slice none 0 0) = w0 at hnil ⊢
    obtain ⟨hP0, hz0', hres0, hi1, hi2⟩ := hnil
    have HP0 := Lib.hid hP0
    have HRES0 := Lib.hid hres0
    have HI1' := Lib.hid hi1
    have HI2' := Lib.hid hi2
    clear hP0 hres0 hi1 hi2
    go_loopw [4] (fun i wr => ∃ (K : Nat) (A : Option Addr) (c : Nat) (ys : List TV), K ≤ x.kl ∧ i = .int .i64 K ∧ PickG w w0 NoS w.heap.size ⟨x.kind, x.text, x.n, A1, x.sl, c1, A2, x.al, c2, none, 0, 0⟩ l K wr A c ys) (fun i _ => x.kl - (intOf i).toNat)
    case atStart => exact ⟨0, none, 0, [], Nat.zero_le _, rfl, HP0.out⟩
    case round =>
      obtain ⟨i, A, c, ys, hi, rfl, hrel⟩ := hrel
      have HPK := Lib.hid hrel
      clear hrel
      by_cases hlt : i < x.kl
      · have hil : i < l.length := by rw [← HKL.out]; exact hlt
        have hu : l[i]? = some l[i] := List.getElem?_eq_getElem hil
        obtain ⟨b, o, y, he, hb, hat, hru⟩ := HR.out.kid (t := T.mk k s n sh a l) (j := i) hu
        have HU := Lib.hid hu
        have hnn := T.nodes_mem (List.getElem_mem hil)
        have HC := Lib.hid (fun (W : World) (h : Below w.heap.size w W) => HIH.out l[i] (List.getElem_mem hil) (by simp only [T.nodes] at hn; omega) y B W (hru.below h hB) (Nat.le_trans hB h.size))
        simp only [TV.val, TV.cells] at HC
        have hbw : b < wr.heap.size := by have := HPK.out.below.size; omega
        have hat' := hat.keep hb (Keeps.of_below HPK.out.below hB)
        have S0 := Lib.hid (show Held_rg wr w.heap.size b (o + i * 6) A i c y from ⟨HPK.out.box.c5, hat'.c0, hat'.c1, hat'.c2, hat'.c3, hat'.c4, hat'.c5⟩)
        obtain ⟨q0, q1, q2, q3, q4, q5⟩ := hat'
        have p5 := HPK.out.box.c5
        simp only at p5
        have hzt := HPK.out.box.lt
        have hbt : b < w.heap.size := by omega
        have hk0 : (0 : Int) ≤ (i : Int) := by omega
        have hk1 : (i : Int) < (x.kl : Int) := by omega
        have nx1 : ¬ b = w.heap.size := by omega
        have nx2 : ¬ w.heap.size = b := by omega
        have hwr0 := HPK.out.size
        rw [he]
        clear hat hru hu he hnn
        obtain ⟨m0, hm0, hmz0, hmz1, hmz2⟩ := info_parts info_term0
        go_wp2_with fail
        go_region_law (first
            | (refine step_append_lies _ (by rfl) _ _ 22 (by rfl) w0.heap.size 29 m0 _ 6 104 Tryz.underlying22 hm0 hmz0 hmz1 hmz2 (by rfl) (by decide) _ i (rowCells ys) (by rfl) (HPK.out.row.kept (grown_of_below (HB4'.out.trans ((Below.refl w4.heap.size w4).alloc (Nat.le_refl _) _ |>.mono hz4')) none) (by cases h : (Value.slice A i c).ownBlock <;> simp)) ⟨w4.heap.size, 0, none⟩ 1 1 z.cells.toList (by rfl) (by rfl) (row_new w4 z.cells _) (cells_one z) (by omega) (by unfold maxLen; omega) (by omega) (by simp; omega) (w4.heap.size + 1) (by simp) ?_; intro g cap w5 hown hgrow hat hlt5; have S3 := ((S0.out.keep HB4'.out hzt hbw).keep ((Below.refl w4.heap.size w4).alloc (Nat.le_refl _) (.cells z.cells 29)) (by omega) (by omega)).grow hgrow (fun g e => Nat.lt_of_lt_of_le (by omega) (HPK.out.row.lt g e).1) hbt; unfold Held_rg at S3; have S3 := S3.2; have S4 := Lib.hid (S3); have S3 := Lib.hid S3; have T5 := Box.grown (((HPK.out.box.below HB4'.out hzt)).alloc _) hgrow (fun e => by have := (HPK.out.row.lt _ e.symm).1; omega); obtain ⟨p0, p1, p2, p3, p4, p5, pf⟩ := T5; simp only at p0 p1 p2 p3 p4 p5)
            | (go_simp; go_at_call 47; (with_reducible refine (HC.out _ (by first | exact HPK.out.below | exact HPK.out.below.drew)).mono ?_); rintro e w4 ⟨z, rfl, hr, hb4⟩; simp only [TV.val, TV.cells]; have hb4' : Below wr.heap.size wr w4 := (by first | exact hb4 | exact (Below.refl _ _).drew.trans hb4); have S1 := S0.out.keep hb4' hzt hbw; unfold Held_rg at S1; have p54 := S1.1; have S1 := S1.2; have S1 := Lib.hid S1; have HR4 := Lib.hid hr; have HB4' := Lib.hid hb4'; have hz4' := hb4'.size; have hz5' : w.heap.size < w4.heap.size := (by omega); clear hr hb4))
        all_goals
          have HNX := Lib.hid (HPK.out.next (fun b h => False.elim h) (Nat.le_refl _) (by omega) (by rfl) HU.out HB4'.out HR4.out hgrow hown hat)
          clear hgrow hown hat p0 p1 p2 p3 p4 p5 pf p54 hlt5
          go_wp2_with fail
          go_roundw
          case rel => exact ⟨i + 1, _, _, _, by omega, by go_num, HNX.out⟩
          case measure => simp [intOf]; omega
      · have hie : i = x.kl := by omega
        have HE := Lib.hid (own_ends HR.out hie HPK.out hz0' HI1'.out HI2'.out hc1 hm1 hc2 hm2)
        have HBW := Lib.hid HPK.out.below
        have hres : Box wr (w.heap.size + 1) zeroTV := by
          have hk : wr.heap[w.heap.size + 1]? = w0.heap[w.heap.size + 1]? := HPK.out.old _ (by omega) (by omega)
          have hc := HRES0.out
          exact ⟨(cell_of_heap hk).trans hc.c0, (cell_of_heap hk).trans hc.c1, (cell_of_heap hk).trans hc.c2, (cell_of_heap hk).trans hc.c3, (cell_of_heap hk).trans hc.c4, (cell_of_heap hk).trans hc.c5, fun o => (World.frozen?_of_block (a := ⟨w.heap.size + 1, o, none⟩) hk).trans (hc.f o)⟩
        obtain ⟨p0, p1, p2, p3, p4, p5, pf⟩ := HPK.out.box
        obtain ⟨r0, r1, r2, r3, r4, r5, rf⟩ := hres
        simp only at p0 p1 p2 p3 p4 p5
        simp only [zeroTV] at r0 r1 r2 r3 r4 r5
        clear hie
        go_wp2_with fail
        refine bodyPost_ret (v := TV.val { x with sa := A1, sc := c1, aa := A2, ac := c2, ka := A, kl := i, kc := c }) (by simp [results, Tryz.results47, TV.val, TV.cells, r0, r1, r2, r3, r4, r5, rf, go_sem]) rfl ?_
        with_reducible exact pass_ends (S := NoS) (rb := w.heap.size + 1) (k := 2) noS_lt HE.out HBW.out (by omega) (by omega) _ _ _ _ _ _
end Go.Proofs.YtnnhbpgpkpbinaaGreat
