/- Package term: Copy of a term that is not too great. Package print: Verb. -/
import Derived.Test.YtboondbognbnnaaGreatDoorQTermF
import Derived.Test.YtboondbognbnnaaGreatDoorQTwinA
import Derived.Test.YtboondbognbnnaaGreatDoorQQqG
import Derived.Test.YtboondbognbnnaaGreatDoorQQqF
import Derived.Test.YtboondbognbnnaaGreatDoorQPpC
set_option linter.unusedVariables false
set_option linter.unusedSimpArgs false
namespace Go.Proofs.YtboondbognbnnaaGreatDoor
open Go.RowKit
/-- Copy of a term that is not too great. -/
def CopyPost (t : T) (w : World) (e : Ending) (w' : World) : Prop := ∃ y F, e = .returned (.tuple #[y.val, .int .i64 0]) ∧ Own w' t y F ∧ Fresh w.heap.size w'.heap.size F ∧ Below w.heap.size w w'
theorem T.nodes_fits {t : T} (h : t.fits) : t.nodes ≤ 4096 := h.1
set_option maxHeartbeats 1000000 in
theorem copy_calls (t : T) (x : TV) (B : Nat) (w : World) (hr : Rep w B t x) (hB : B ≤ w.heap.size) (hf : t.fits) :
    Calls Tryz.prog 29 #[x.val] w (CopyPost t w) := by
  have hb0 : Below w.heap.size w ((w.alloc (.cells x.cells 29)).alloc (.cells #[.int .i64 0, .string ⟨#[]⟩, .int .i64 0, .slice none 0 0, .slice none 0 0, .slice none 0 0] 29)) := by go_grown
  have hbox0 := (Box.new w x 29).alloc (.cells #[.int .i64 0, .string ⟨#[]⟩, .int .i64 0, .slice none 0 0, .slice none 0 0, .slice none 0 0] 29)
  have hres0 := Box.new (w.alloc (.cells x.cells 29)) zeroTV 29
  have HG := Lib.hid (fun W (h : Below w.heap.size w W) => great_known (v := false) (by simp [hf]) hr hB h)
  have HT := Lib.hid (twin_all t hf.1)
  have HR := Lib.hid hr
  simp only [TV.cells, zeroTV, World.size_alloc] at hb0 hbox0 hres0
  have HB0 := Lib.hid hb0
  have HBOX0 := Lib.hid hbox0
  have HRES0 := Lib.hid hres0
  clear hb0 hbox0 hres0 hr hf
  simp only [TV.val, TV.cells]
  go_enter Tryz.func29, Tryz.ntmps29
  go_wp2_with fail
  refine (HG.out _ HB0.out).mono ?_
  rintro e w1 ⟨rfl, hb1⟩
  have HB1 := Lib.hid (HB0.out.trans (hb1.mono (by simp; omega)))
  have HBOX1 := Lib.hid (HBOX0.out.below hb1 (by simp; omega))
  have HRES1 := Lib.hid (HRES0.out.below hb1 (by simp))
  have hz1 := HRES1.out.lt
  obtain ⟨k0, k1, k2, k3, k4, k5, kf⟩ := HBOX1.out
  clear hb1
  go_wp2_with fail
  have H2 := HT.out x B w1 (HR.out.below HB1.out hB) (Nat.le_trans hB HB1.out.size)
  simp only [TV.val, TV.cells] at H2
  refine H2.mono ?_
  rintro e w2 ⟨y, F, rfl, hO, hF, hb2⟩
  have HB2 := Lib.hid (HB1.out.trans (hb2.mono HB1.out.size))
  have HRES2 := Lib.hid (HRES1.out.below hb2 hz1)
  have HO := Lib.hid hO
  have HF := Lib.hid hF
  obtain ⟨r0, r1, r2, r3, r4, r5, rf⟩ := HRES2.out
  try simp only at r0 r1 r2 r3 r4 r5
  clear hb2 hO hF k0 k1 k2 k3 k4 k5 kf H2
  simp only [TV.val, TV.cells]
  go_wp2_with fail
  refine bodyPost_ret (v := .tuple #[y.val, .int .i64 0]) (by simp [results, Tryz.results29, TV.val, TV.cells, r0, r1, r2, r3, r4, r5, rf, go_sem]) rfl ?_
  refine ⟨y, F, rfl, Own.kept _ _ _ HO.out (fun b hb => ?_), HF.out.mono (by omega) ?_, ?_⟩
  · have := HF.out.lo b hb
    iterate 6 (refine (Below.heap_setCell _ _ _ _ (fun e => by simp only at e; omega)).trans ?_)
    rfl
  · simp [World.setCell]
  · iterate 6 (refine Below.setCell ?_ (by simp) _)
    exact HB2.out

end Go.Proofs.YtboondbognbnnaaGreatDoor

namespace Go.Proofs.YtboondbognbnnaaGreatDoor
open Go.RowKit
/-- a term written whole, by its class -/
theorem written_calls {t : T} {x : TV} {w : World} {c m : Int} {j : FuncId} {out : List UInt8} (hr : Rep w w.heap.size t x) (hm : MayAt x c m w) (hj : ∀ a w, (callFunc j a).run Tryz.prog w = .ok (.enter j a) w) (hP : m = 0 → PutsAt j t out ∧ out ≠ []) (hT : Tabs w.heap.size w) :
    Calls Tryz.prog 53 #[x.val, .int .i64 c, fn j #[]] w (PWr w m out) := by
  by_cases h0 : m = 0
  · subst h0
    exact written_yes hr hm hj (hP rfl).1 (hP rfl).2 hT
  · exact written_no hm h0
theorem phrase_enter (a : Array Value) (w : World) : (callFunc fPh a).run Tryz.prog w = .ok (.enter fPh a) w := enters_of Tryz.func54 (by kernel_rfl) rfl a w
theorem Tabs.up {B B' : Nat} {w w' : World} (h : Tabs B w) (hb : Below B w w') (hB : B ≤ B') : Tabs B' w' := fun w2 h2 => h w2 (hb.trans (h2.mono hB))
set_option maxRecDepth 100000 in
set_option maxHeartbeats 4000000 in
theorem printVerb_calls {t : T} {x : TV} {w : World} {m : Int} {out : List UInt8} (hr : Rep w w.heap.size t x) (hm : MayAt x 3 m w) (hP : m = 0 → VAt t ∧ out = Pp.rn (Pp.phrase t) ∧ out ≠ []) (hT : Tabs w.heap.size w) :
    Calls Tryz.prog 28 #[x.val] w (PWr w m out) := by
  have hA := (Below.refl w.heap.size w).alloc (Nat.le_refl _) (.cells x.cells 29)
  have hB : w.heap.size ≤ (w.alloc (.cells x.cells 29)).heap.size := hA.size
  have HQ := Lib.hid (written_calls (j := fPh) (out := out) (c := 3) (Rep.mono hB t x (hr.below hA (Nat.le_refl _))) (fun W hW => hm W (hA.trans (hW.mono hB))) phrase_enter (fun h => ⟨by rw [(hP h).2.1]; exact (hP h).1, (hP h).2.2⟩) (hT.up hA hB))
  have HA := Lib.hid hA
  have HS := Lib.hid hB
  have k0 : At (w.alloc (.cells x.cells 29)) w.heap.size 0 x := by
    have k : (w.alloc (.cells x.cells 29)).heap[w.heap.size]? = some (.cells x.cells 29 (0, 0)) := heap_alloc_new w _
    refine ⟨?_, ?_, ?_, ?_, ?_, ?_⟩ <;> (rw [Lib.cell_of_heap k]; rfl)
  clear hr hm hP hT hA hB
  unfold PWr at HQ ⊢
  generalize (if m = 0 ∧ out.length ≤ 1048576 then (⟨out.toArray⟩ : ByteArray) else ⟨#[]⟩) = S at *
  generalize (if m = 0 then (if out.length ≤ 1048576 then (0 : Int) else 2) else m) = E at *
  unfold TV.val
  unfold TV.val at HQ
  unfold TV.cells at HQ HA HS k0 ⊢
  go_enter Tryz.func28, Tryz.ntmps28
  go_upto_region 1 with fail
  generalize w.alloc _ = w1 at *
  obtain ⟨c0, c1, c2, c3, c4, c5⟩ := k0
  go_wp2_with (go_at_call 53; refine HQ.out.mono ?_; rintro e w2 ⟨rfl, hb⟩)
  refine bodyPost_ret (v := .tuple #[.string S, .int .i64 E]) (by simp [results, Tryz.results28, go_sem]) rfl ?_
  exact ⟨rfl, HA.out.trans (hb.mono HS.out)⟩
theorem ne_of {l : List Pp.Pc} (hf : Pp.First l) (ht : Pp.Tidy l) (ho : Pp.Ok false l []) : Pp.rn l ≠ [] := by
  obtain ⟨q0, r0, h1, h2⟩ := hf
  obtain ⟨⟨k, s, m, rfl⟩, _⟩ := ht
  have e : (k, s) :: Pp.wl m = q0 :: r0 := h1
  injection e with e1 e2
  subst e1
  obtain ⟨c, q, rfl, _⟩ := Pp.fit_head ho.1 h2
  show (c :: q) ++ Pp.rn m ≠ []
  simp
/-- a term that may be, of whole numbers in range: what its class's function puts -/
theorem may_put {t : T} {c : Int} (h : T.may t c = 0) (hr : Pp.rng t = true) : (c = 3 → VAt t ∧ Pp.rn (Pp.phrase t) ≠ []) ∧ (c = 1 → NAt t ∧ Pp.rn (Pp.noun t) ≠ []) := by
  obtain ⟨hf, hg, hcl⟩ := Pp.may_parts h
  have kid := Pp.kid_all t false hg hr
  constructor
  · rintro rfl
    have g := kid.1 hcl
    have f : Pp.FitV t := Pp.fits_all g
    have b : Pp.PV t := Pp.back_all g
    exact ⟨(all_at g).v rfl, ne_of b.first (Pp.tidy_all g) (f.ok false [] Pp.Stop.nil (fun e => by cases e))⟩
  · rintro rfl
    have g := kid.2.1 hcl
    have f : Pp.FitN t := Pp.fits_all g
    have b : Pp.PN t := Pp.back_all g
    exact ⟨(all_at g).n rfl, ne_of b.first (Pp.tidy_all g) (f.ok false [] Pp.Stop.nil (fun e => by cases e))⟩
theorem printVerb_of {t : T} {x : TV} {w : World} (hr : Rep w w.heap.size t x) (hm : MayAt x 3 (T.may t 3) w) (hg : Pp.rng t = true) (hT : Tabs w.heap.size w) :
    Calls Tryz.prog 28 #[x.val] w (PWr w (T.may t 3) (Pp.rn (Pp.phrase t))) :=
  printVerb_calls hr hm (fun h => ⟨((may_put h hg).1 rfl).1, rfl, ((may_put h hg).1 rfl).2⟩) hT
end Go.Proofs.YtboondbognbnnaaGreatDoor
