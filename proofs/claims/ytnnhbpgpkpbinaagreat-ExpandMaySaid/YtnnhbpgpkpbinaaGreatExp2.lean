/- Package expand: twin. -/
import Derived.Test.YtnnhbpgpkpbinaaGreatExp1
import Derived.Deep.Cut
namespace Go.Proofs.YtnnhbpgpkpbinaaGreat
open Go.RowKit

set_option maxHeartbeats 1000000 in
theorem etwin_calls (t : T) (x : TV) (B : Nat) (w : World) (hr : Rep w B t x) (hB : B ≤ w.heap.size) (hf : t.fits) :
    Calls Tryz.prog 52 #[x.val] w (TwinPost t w) := by
  have hb0 : Below w.heap.size w ((w.alloc (.cells x.cells 29)).alloc (.cells #[.int .i64 0, .string ⟨#[]⟩, .int .i64 0, .slice none 0 0, .slice none 0 0, .slice none 0 0] 29)) := by go_grown
  have hres0 := Box.new (w.alloc (.cells x.cells 29)) zeroTV 29
  simp only [TV.cells, zeroTV, World.size_alloc] at hb0 hres0
  have HB0 := Lib.hid hb0
  have HRES0 := Lib.hid hres0
  have HC := Lib.hid (fun W (h : Below w.heap.size w W) => copy_calls t x B W (hr.below h hB) (Nat.le_trans hB h.size) hf)
  simp only [TV.val, TV.cells] at HC
  clear hb0 hres0 hr hf
  simp only [TV.val, TV.cells]
  go_enter Tryz.func52, Tryz.ntmps52
  go_wp2_with fail
  refine (HC.out _ HB0.out).mono ?_
  rintro e w1 ⟨y, F, rfl, hO, hF, hb1⟩
  have HB1 := Lib.hid (HB0.out.trans (hb1.mono (by simp; omega)))
  have HRES1 := Lib.hid (HRES0.out.below hb1 (by simp))
  have hz1 := HRES1.out.lt
  have hx1 : ¬ w.heap.size + 1 = w1.heap.size := by omega
  have hx2 : ¬ w1.heap.size = w.heap.size + 1 := by omega
  have HO := Lib.hid hO
  have HF := Lib.hid (show Fresh (w.heap.size + 2) w1.heap.size F from by simpa using hF)
  obtain ⟨r0, r1, r2, r3, r4, r5, rf⟩ := HRES1.out
  try simp only at r0 r1 r2 r3 r4 r5
  clear hb1 hO hF
  simp only [TV.val, TV.cells]
  go_upto_region 2 with fail
  have hby := Box.new w1 y 29
  have hr2 := HRES1.out.alloc (.cells y.cells 29)
  have hb2 := (Below.refl w1.heap.size w1).alloc (Nat.le_refl _) (.cells y.cells 29)
  have ho2 := HO.out.below HF.out hb2 (Nat.le_refl _)
  have hz2 : w1.heap.size ≤ (w1.alloc (.cells y.cells 29)).heap.size := hb2.size
  simp only [TV.cells] at hby hr2 hb2 ho2 hz2
  clear r0 r1 r2 r3 r4 r5 rf
  generalize w1.alloc (.cells #[.int .i64 y.kind, .string y.text, .int .i64 y.n, .slice y.sa y.sl y.sc, .slice y.aa y.al y.ac, .slice y.ka y.kl y.kc] 29) = w2 at hby hr2 hb2 ho2 hz2 ⊢
  have HB2 := Lib.hid (HB1.out.trans (hb2.mono HB1.out.size))
  have HO2 := Lib.hid ho2
  obtain ⟨r0, r1, r2, r3, r4, r5, rf⟩ := hr2
  obtain ⟨q0, q1, q2, q3, q4, q5, qf⟩ := hby
  try simp only at r0 r1 r2 r3 r4 r5
  clear hb2 ho2
  go_wp2_with fail
  refine bodyPost_ret (v := y.val) (by simp [results, Tryz.results52, TV.val, TV.cells, r0, r1, r2, r3, r4, r5, rf, q0, q1, q2, q3, q4, q5, go_sem]) rfl ?_
  refine ⟨y, F, rfl, Own.kept _ _ _ HO2.out (fun b hb => ?_), HF.out.mono (by omega) ?_, ?_⟩
  · have := HF.out.lo b hb
    iterate 6 (refine (Below.heap_setCell _ _ _ _ (fun e => by simp only at e; omega)).trans ?_)
    rfl
  · simpa [World.setCell] using hz2
  · iterate 6 (refine Below.setCell ?_ (by simp) _)
    exact HB2.out
end Go.Proofs.YtnnhbpgpkpbinaaGreat
