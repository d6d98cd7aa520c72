/- Package expand: the expander. -/
import Derived.Test.YtnnhbpgpkpbinaaGreatExp2
import Derived.Maps.OwnOps
import Derived.Maps.Views
namespace Go.Proofs.YtnnhbpgpkpbinaaGreat
open Go.RowKit Go.WideMaps Go.Maps

/-- a function value, as it is held -/
def Rv (v : Value) : Option (DataW Value × List MemPlace) := some (.held v, [])
def clo (k cb : Nat) : Value := .func (.func k) #[] #[.pointer (some ⟨cb, 0, none⟩)]
/-- what opens a kind -/
def openers (cb : Nat) : List (Int × Value) :=
  [(22, .func (.func 51) #[] #[]), (27, clo 53 cb), (29, clo 48 cb), (46, clo 48 cb), (31, clo 48 cb), (39, clo 57 cb), (40, clo 58 cb), (44, clo 59 cb), (45, clo 60 cb), (43, clo 61 cb), (36, clo 62 cb), (37, clo 63 cb)]
def putAllV (m : DataW Value) (l : List (Int × Value)) : DataW Value := l.foldl (fun m e => m.put (.int .i64 e.1) (.held e.2)) m
/-- an expander lies in three blocks -/
structure ExpAt (w : World) (eb mb cb : Nat) : Prop where
  c : w.cell? ⟨cb, 0, none⟩ = some (.pointer (some ⟨eb, 0, none⟩))
  e : w.cell? ⟨eb, 0, none⟩ = some (.map (some mb))
  m : w.ownsMap Tryz.prog 3 Rv mb 12 (putAllV (.map []) (openers cb))
theorem ExpAt.below {w w' : World} {eb mb cb B : Nat} (h : ExpAt w eb mb cb) (hb : Below B w w') (h1 : eb < B) (h2 : mb < B) (h3 : cb < B) : ExpAt w' eb mb cb := by
  refine ⟨(hb.cell (p := ⟨cb, 0, none⟩) h3).trans h.c, (hb.cell (p := ⟨eb, 0, none⟩) h1).trans h.e, ?_⟩
  obtain ⟨es, clock, hh, F, hs, hD⟩ := h.m
  exact ⟨es, clock, (hb.block mb h2).trans hh, F, hs, hD⟩

theorem wpList_insert_own {H : Type} {P : Program} (w : World) {ops : Array Oper} {rest : List Oper} {o : Oper} {a : Act} {Q : Exit → Act → World → Prop}
    (hg : o.guard = none) (m x v : Operand) (t : TypeId) (hop : o.op = Op.insert t m x v)
    (k e : TypeId) (K : Keyed P k) (ht : P.underlying t = some (.map k e)) (R : Value → Option (DataW H × List MemPlace)) (b n : Nat) (D : DataW H)
    (hm : a.eval m = .map (some b)) (hown : w.ownsMap P k R b n D) (hn : n < maxLen) (key val : Value) (kl : Lit) (hx : a.eval x = key) (hv : a.eval v = val) (hkey : keyOf P k key = some kl)
    (d : DataW H) (ps : List MemPlace) (hval : R val = some (d, ps))
    (hK : ∀ w', w'.ownsMap P k R b (n + 1) (D.put kl d) → w.grownBy w' (some b) → wpList P ops Q rest (a.put o.dst undef) w') :
    wpList P ops Q (o :: rest) a w := by
  refine wpList_plain hg fun K' hK' => ?_
  obtain ⟨w', hrun, r1, r2⟩ := hown.update K ht hn hkey hval
  unfold Oper.wp
  simp [execOp, hop, hm, hx, hv, hrun, Result.andThen]
  exact hK' _ _ (hK w' r1 r2)
theorem law_int : Keyed Tryz.prog 3 := int_keyed Tryz.underlying3

/-- while the map is filled -/
structure Fills (w : World) (eb cb mb : Nat) (wr : World) : Prop where
  below : Below w.heap.size w wr
  c : wr.cell? ⟨cb, 0, none⟩ = some (.pointer (some ⟨eb, 0, none⟩))
  e : wr.cell? ⟨eb, 0, none⟩ = some (.map none)
  f : wr.frozen? ⟨eb, 0, none⟩ = false
theorem Fills.step {w wr w2 : World} {eb cb mb : Nat} (h : Fills w eb cb mb wr) (hg : wr.grownBy w2 (some mb)) (hm : w.heap.size ≤ mb) (h1 : cb ≠ mb) (h2 : eb ≠ mb) (h3 : eb < wr.heap.size) : Fills w eb cb mb w2 := by
  obtain ⟨a, b, c, d⟩ := h
  exact ⟨a.grown hg a.size (fun j hj => by cases hj; exact hm), hg.cell b (by simpa using h1), hg.cell c (by simpa using h2), (World.frozen?_of_block (a := ⟨eb, 0, none⟩) (hg.block eb h3 (by simpa using h2))).trans d⟩

def BegunPost (w : World) (e : Ending) (w' : World) : Prop :=
  ∃ eb mb cb, e = .returned (.pointer (some ⟨eb, 0, none⟩)) ∧ ExpAt w' eb mb cb ∧ Below w.heap.size w w' ∧ (eb < w'.heap.size ∧ mb < w'.heap.size ∧ cb < w'.heap.size)

set_option maxRecDepth 100000 in
set_option maxHeartbeats 4000000 in
theorem begun_calls (w : World) : Calls Tryz.prog 27 #[] w (BegunPost w) := by
  have hmm := @run_makeMap Tryz.prog
  go_enter Tryz.func27, Tryz.ntmps27
  have hm0 : (((w.alloc (.cells #[.map none] 81)).alloc (.cells #[.pointer (some ⟨w.heap.size, 0, none⟩)] 57)).alloc (.map #[] 0)).ownsMap Tryz.prog 3 Rv (w.heap.size + 1 + 1) 0 (.map []) := by
    have := World.ownsMap_made ((w.alloc (.cells #[.map none] 81)).alloc (.cells #[.pointer (some ⟨w.heap.size, 0, none⟩)] 57)) Tryz.prog 3 Rv
    simpa using this
  have hx0 : Fills w w.heap.size (w.heap.size + 1) (w.heap.size + 1 + 1) (((w.alloc (.cells #[.map none] 81)).alloc (.cells #[.pointer (some ⟨w.heap.size, 0, none⟩)] 57)).alloc (.map #[] 0)) :=
    ⟨by go_grown, by simp [go_sem], by simp [go_sem], by simp [go_sem]⟩
  have HM := Lib.hid hm0
  have HX := Lib.hid hx0
  clear hm0 hx0
  go_wp2_with (refine wpList_insert_own _ rfl _ _ _ 79 rfl 3 84 law_int Tryz.underlying79 Rv (w.heap.size + 1 + 1) _ _ rfl HM.out (by unfold maxLen; decide) _ _ _ rfl rfl (keyOf_int_mk Tryz.underlying3 (by decide)) (.held _) [] rfl ?_; intro w1 hown hgrow; have HX2 := Lib.hid (HX.out.step hgrow (by omega) (by omega) (by omega) (World.block_lt_of_cell? _ _ HX.out.e)); clear HX HM; have HX := HX2; have HM := Lib.hid hown; clear hown hgrow HX2; (try clear xc xe xf); have xc := HX.out.c; have xe := HX.out.e; have xf := HX.out.f)
  go_ret
  have hbx : w.heap.size + 1 + 1 < w1.heap.size := HM.out.lt
  refine ⟨w.heap.size, w.heap.size + 1 + 1, w.heap.size + 1, rfl, ⟨?_, ?_, ?_⟩, HX.out.below.setCell (by simp) _, ?_⟩
  · simp [xc, go_sem]
  · simp [xe, go_sem]
  · exact World.ownsMap.kept HM.out (grown_set w1 w.heap.size 0 _) (by simp; omega)
  · simp [World.setCell]; omega
end Go.Proofs.YtnnhbpgpkpbinaaGreat
