/- The law ExpandAll: its walk. -/
import Derived.Test.YtnnhbpgpkpbinaaGreatMRefH
import Derived.Test.YtnnhbpgpkpbinaaGreatMLay6
import Derived.Test.YtnnhbpgpkpbinaaGreatMLayD
import Derived.Test.YtnnhbpgpkpbinaaGreatMLaw1
import Derived.StillTailTactics
import Derived.Deep.CutRange
import Derived.Deep.RegionHeld3
import Derived.Deep.QuietTactic
import Derived.BigQuiet
set_option linter.unusedVariables false
set_option linter.unusedSimpArgs false
namespace Go.Proofs.YtnnhbpgpkpbinaaGreat
open Go.RowKit

theorem Box.setAll {w : World} {b : Nat} {x y : TV} (h : Box w b x) : Box ((((((w.setCell ⟨b, 0, none⟩ (.int .i64 y.kind)).setCell ⟨b, 1, none⟩ (.string y.text)).setCell ⟨b, 2, none⟩ (.int .i64 y.n)).setCell ⟨b, 3, none⟩ (.slice y.sa y.sl y.sc)).setCell ⟨b, 4, none⟩ (.slice y.aa y.al y.ac)).setCell ⟨b, 5, none⟩ (.slice y.ka y.kl y.kc)) b y := by
  obtain ⟨h0, h1, h2, h3, h4, h5, hf⟩ := h
  constructor <;> simp [h0, h1, h2, h3, h4, h5, hf, go_sem]
theorem ofT_fits (t : T) (v : Int) : (T.ofT t v).fits := by
  by_cases h : T.ofE t v = 0
  · exact (verb_of_may (T.of_ok t v h).1).fits
  · rw [T.ofT, if_neg h]
    decide

/-- behind the first statement: the document's answer in a variable -/
def CutA (w : World) (t : T) (v : Int) (p e : Value) (wq : World) : Prop := ∃ pb u, p = .pointer (some ⟨pb, 0, none⟩) ∧ e = .int .i64 (T.ofE t v) ∧ Below w.heap.size w wq ∧ Box wq pb u ∧ Rep wq wq.heap.size (T.ofT t v) u
theorem CutA.after {w w1 : World} {t : T} {v : Int} {u : TV} {lo : Nat} (hb : Below w.heap.size w w1) (hr : RepS w1 (fun b => lo ≤ b ∧ b < w1.heap.size) (T.ofT t v) u) : CutA w t v (.pointer (some ⟨w1.heap.size, 0, none⟩)) (.int .i64 (T.ofE t v)) (w1.alloc (.cells #[.int .i64 u.kind, .string u.text, .int .i64 u.n, .slice u.sa u.sl u.sc, .slice u.aa u.al u.ac, .slice u.ka u.kl u.kc] 29)) := by
  have hba := (Below.refl w1.heap.size w1).alloc (Nat.le_refl _) (.cells u.cells 29)
  exact ⟨_, u, rfl, rfl, hb.trans (hba.mono hb.size), Box.new w1 u _, Rep.mono hba.size _ _ ((hr.rep (B := w1.heap.size) (fun b h => h.2)).below hba (Nat.le_refl _))⟩
theorem CutA.ahead {w w1 : World} {t : T} {v : Int} {u x : TV} {lo pb : Nat} (hb : Below w.heap.size w w1) (hr : RepS w1 (fun b => lo ≤ b ∧ b < w1.heap.size) (T.ofT t v) u) (hx : Box w1 pb x) (hlo : pb < lo) (hw : w.heap.size ≤ pb) :
    CutA w t v (.pointer (some ⟨pb, 0, none⟩)) (.int .i64 (T.ofE t v)) ((((((w1.setCell ⟨pb, 0, none⟩ (.int .i64 u.kind)).setCell ⟨pb, 1, none⟩ (.string u.text)).setCell ⟨pb, 2, none⟩ (.int .i64 u.n)).setCell ⟨pb, 3, none⟩ (.slice u.sa u.sl u.sc)).setCell ⟨pb, 4, none⟩ (.slice u.aa u.al u.ac)).setCell ⟨pb, 5, none⟩ (.slice u.ka u.kl u.kc)) := by
  refine ⟨pb, u, rfl, rfl, ?_, hx.setAll, RepS.rep (S := fun b => lo ≤ b ∧ b < w1.heap.size) (fun b h => by simpa [World.setCell] using h.2) _ _ (RepS.keep (fun b o h => cell_of_heap ?_) (fun _ h => h) _ _ hr)⟩
  · iterate 6 (refine Below.setCell ?_ (by simpa using hw) _)
    exact hb
  · have hne : b ≠ pb := by omega
    iterate 6 (refine (Below.heap_setCell _ _ _ _ hne).trans ?_)
    rfl
def HeldA (W : World) (b o b2 o2 : Nat) (y : TV) (v : Int) : Prop :=
  W.cell? ⟨b, o, none⟩ = some (.int .i64 y.kind) ∧ W.cell? ⟨b, o + 1, none⟩ = some (.string y.text) ∧ W.cell? ⟨b, o + 2, none⟩ = some (.int .i64 y.n) ∧ W.cell? ⟨b, o + 3, none⟩ = some (.slice y.sa y.sl y.sc) ∧ W.cell? ⟨b, o + 4, none⟩ = some (.slice y.aa y.al y.ac) ∧ W.cell? ⟨b, o + 5, none⟩ = some (.slice y.ka y.kl y.kc) ∧ W.cell? ⟨b2, o2, none⟩ = some (.int .i64 v)
theorem HeldA.make {w W : World} {b o b2 o2 : Nat} {y : TV} {v : Int} (hat : At W b o y) (hv : W.cell? ⟨b2, o2, none⟩ = some (.int .i64 v)) : HeldA W b o b2 o2 y v := ⟨hat.c0, hat.c1, hat.c2, hat.c3, hat.c4, hat.c5, hv⟩

theorem CutA.after' {w w1 : World} {t : T} {v : Int} {u : TV} (hb : Below w.heap.size w w1) (hr : Rep w1 w1.heap.size (T.ofT t v) u) : CutA w t v (.pointer (some ⟨w1.heap.size, 0, none⟩)) (.int .i64 (T.ofE t v)) (w1.alloc (.cells #[.int .i64 u.kind, .string u.text, .int .i64 u.n, .slice u.sa u.sl u.sc, .slice u.aa u.al u.ac, .slice u.ka u.kl u.kc] 29)) := by
  have hba := (Below.refl w1.heap.size w1).alloc (Nat.le_refl _) (.cells u.cells 29)
  exact ⟨_, u, rfl, rfl, hb.trans (hba.mono hb.size), Box.new w1 u _, Rep.mono hba.size _ _ (hr.below hba (Nat.le_refl _))⟩
theorem CutA.ahead' {w w1 : World} {t : T} {v : Int} {u x : TV} {lo pb : Nat} {F : List Nat} (hb : Below w.heap.size w w1) (hO : Own w1 (T.ofT t v) u F) (hF : Fresh lo w1.heap.size F) (hx : Box w1 pb x) (hlo : pb < lo) (hw : w.heap.size ≤ pb) :
    CutA w t v (.pointer (some ⟨pb, 0, none⟩)) (.int .i64 (T.ofE t v)) ((((((w1.setCell ⟨pb, 0, none⟩ (.int .i64 u.kind)).setCell ⟨pb, 1, none⟩ (.string u.text)).setCell ⟨pb, 2, none⟩ (.int .i64 u.n)).setCell ⟨pb, 3, none⟩ (.slice u.sa u.sl u.sc)).setCell ⟨pb, 4, none⟩ (.slice u.aa u.al u.ac)).setCell ⟨pb, 5, none⟩ (.slice u.ka u.kl u.kc)) := by
  refine ⟨pb, u, rfl, rfl, ?_, hx.setAll, Own.rep _ _ F (Own.kept _ _ _ hO (fun b hb' => ?_)) (fun b hb' => by simpa [World.setCell] using hF.hi b hb')⟩
  · iterate 6 (refine Below.setCell ?_ (by simpa using hw) _)
    exact hb
  · have hne : b ≠ pb := by have := hF.lo b hb'; omega
    iterate 6 (refine (Below.heap_setCell _ _ _ _ hne).trans ?_)
    rfl
def HeldB (W : World) (p b2 o2 : Nat) (y : TV) (v : Int) : Prop :=
  W.cell? ⟨p, 0, none⟩ = some (.int .i64 y.kind) ∧ W.cell? ⟨p, 1, none⟩ = some (.string y.text) ∧ W.cell? ⟨p, 2, none⟩ = some (.int .i64 y.n) ∧ W.cell? ⟨p, 3, none⟩ = some (.slice y.sa y.sl y.sc) ∧ W.cell? ⟨p, 4, none⟩ = some (.slice y.aa y.al y.ac) ∧ W.cell? ⟨p, 5, none⟩ = some (.slice y.ka y.kl y.kc) ∧ W.cell? ⟨b2, o2, none⟩ = some (.int .i64 v)
theorem HeldB.make {W : World} {p b2 o2 : Nat} {y : TV} {v : Int} (h : Box W p y) (hv : W.cell? ⟨b2, o2, none⟩ = some (.int .i64 v)) : HeldB W p b2 o2 y v := ⟨h.c0, h.c1, h.c2, h.c3, h.c4, h.c5, hv⟩
def HeldC (W : World) (p b q : Nat) (x y : TV) : Prop :=
  W.cell? ⟨p, 0, none⟩ = some (.int .i64 x.kind) ∧ W.cell? ⟨p, 1, none⟩ = some (.string x.text) ∧ W.cell? ⟨p, 2, none⟩ = some (.int .i64 x.n) ∧ W.cell? ⟨p, 3, none⟩ = some (.slice x.sa x.sl x.sc) ∧ W.cell? ⟨p, 4, none⟩ = some (.slice x.aa x.al x.ac) ∧ W.cell? ⟨p, 5, none⟩ = some (.slice x.ka x.kl x.kc) ∧ W.cell? ⟨b, q, none⟩ = some (.int .i64 y.kind) ∧ W.cell? ⟨b, q + 1, none⟩ = some (.string y.text) ∧ W.cell? ⟨b, q + 2, none⟩ = some (.int .i64 y.n) ∧ W.cell? ⟨b, q + 3, none⟩ = some (.slice y.sa y.sl y.sc) ∧ W.cell? ⟨b, q + 4, none⟩ = some (.slice y.aa y.al y.ac) ∧ W.cell? ⟨b, q + 5, none⟩ = some (.slice y.ka y.kl y.kc)
theorem HeldC.outside {w w' : World} {F : List Nat} {p b q : Nat} {x y : TV} (h : HeldC w p b q x y) (ho : Outside F w w') (hp : p ∉ F) (hb : b ∉ F) (hp2 : p < w.heap.size) (hb2 : b < w.heap.size) : HeldC w' p b q x y := by
  have k1 : ∀ o, w'.cell? ⟨p, o, none⟩ = w.cell? ⟨p, o, none⟩ := fun o => cell_of_heap (ho.block p hp2 hp)
  have k2 : ∀ o, w'.cell? ⟨b, o, none⟩ = w.cell? ⟨b, o, none⟩ := fun o => cell_of_heap (ho.block b hb2 hb)
  obtain ⟨a0, a1, a2, a3, a4, a5, b0, b1, b2, b3, b4, b5⟩ := h
  exact ⟨(k1 _).trans a0, (k1 _).trans a1, (k1 _).trans a2, (k1 _).trans a3, (k1 _).trans a4, (k1 _).trans a5, (k2 _).trans b0, (k2 _).trans b1, (k2 _).trans b2, (k2 _).trans b3, (k2 _).trans b4, (k2 _).trans b5⟩
theorem set6_below {B : Nat} {w w5 : World} {p : Nat} (hb : Below B w w5) (hp : B ≤ p) (a0 a1 a2 a3 a4 a5 : Value) : Below B w ((((((w5.setCell ⟨p, 0, none⟩ a0).setCell ⟨p, 1, none⟩ a1).setCell ⟨p, 2, none⟩ a2).setCell ⟨p, 3, none⟩ a3).setCell ⟨p, 4, none⟩ a4).setCell ⟨p, 5, none⟩ a5) := by
  iterate 6 (refine Below.setCell ?_ (by simpa using hp) _)
  exact hb
theorem set6_laid {w5 : World} {t : T} {y : TV} {F : List Nat} {p : Nat} (h : Laid w5 t y F) (hp : p ∉ F) (a0 a1 a2 a3 a4 a5 : Value) : Laid ((((((w5.setCell ⟨p, 0, none⟩ a0).setCell ⟨p, 1, none⟩ a1).setCell ⟨p, 2, none⟩ a2).setCell ⟨p, 3, none⟩ a3).setCell ⟨p, 4, none⟩ a4).setCell ⟨p, 5, none⟩ a5) t y F := by
  refine Laid.kept _ _ _ h (fun b hb => ?_)
  have hne : b ≠ p := fun e => hp (e ▸ hb)
  iterate 6 (refine (Below.heap_setCell _ _ _ _ hne).trans ?_)
  rfl
theorem set6_size (w5 : World) (p : Nat) (a0 a1 a2 a3 a4 a5 : Value) : ((((((w5.setCell ⟨p, 0, none⟩ a0).setCell ⟨p, 1, none⟩ a1).setCell ⟨p, 2, none⟩ a2).setCell ⟨p, 3, none⟩ a3).setCell ⟨p, 4, none⟩ a4).setCell ⟨p, 5, none⟩ a5).heap.size = w5.heap.size := by simp [World.setCell]

set_option maxRecDepth 100000 in
set_option maxHeartbeats 4000000 in
theorem expandAll_calls (l : List T) (vs : List Int) (A A2 : Option Addr) (n c n2 c2 B : Nat) (w : World) (hn : n = l.length) (hn1 : n ≤ 2199023255552) (hk : KidsAt w B A l) (hi : Ints w B A2 n2 vs) (hn2 : n2 ≤ 17592186044416) (hB : B ≤ w.heap.size) :
    Calls Tryz.prog 3 #[.slice A n c, .slice A2 n2 c2] w fun e w' => e = .returned (.bool true) ∧ Below w.heap.size w w' := by
  have HKS := Lib.hid hk
  have HIS := Lib.hid hi
  have HN := Lib.hid hn
  clear hk hi hn
  go_enter Tryz.func3, Tryz.ntmps3
  go_wp2_with fail
  refine (begun25_calls _).mono ?_
  rintro e wb ⟨rfl, hbb⟩
  have HBB := Lib.hid hbb
  clear hbb
  go_wp2_with fail
  go_loopw [5] (fun i wr => ∃ I : Nat, I ≤ n ∧ i = .int .i64 I ∧ Below w.heap.size w wr) (fun i _ => n - (intOf i).toNat)
  case atStart => exact ⟨0, Nat.zero_le _, rfl, HBB.out⟩
  case round =>
    obtain ⟨I, hI, rfl, hbo⟩ := hrel
    have HBO := Lib.hid hbo
    clear hbo
    by_cases hlt : I < n
    case neg =>
      go_wp2_with fail
      go_ret
      exact ⟨rfl, HBO.out⟩
    have hIl : I < l.length := by rw [← HN.out]; exact hlt
    obtain ⟨b, o, y, he, hb, hat, hru⟩ := HKS.out I l[I] (List.getElem?_eq_getElem hIl)
    generalize l[I] = t at hru
    have HAT := Lib.hid hat
    have HRU := Lib.hid hru
    subst he
    clear hat hru hIl
    have HLI := Lib.hid (fun (W : World) (h : Below w.heap.size w W) => light_calls t y B W (HRU.out.below h hB) (Nat.le_trans hB h.size))
    have HLA := Lib.hid (fun (h1 : t.small) (h2 : t.fits) (W : World) (h : Below w.heap.size w W) => lay_all t h1 h2.1 y B W (HRU.out.below h hB) (Nat.le_trans hB h.size))
    simp only [TV.val, TV.cells] at HLI HLA
    go_wp2_with fail
    go_loopw [6] (fun i wr => ∃ J : Nat, J ≤ n2 ∧ i = .int .i64 J ∧ Below w.heap.size w wr) (fun i _ => n2 - (intOf i).toNat)
    case atStart => exact ⟨0, Nat.zero_le _, rfl, HBO.out⟩
    case round =>
      obtain ⟨J, hJ, rfl, hbi⟩ := hrel
      have HBI := Lib.hid hbi
      by_cases hlt2 : J < n2
      case neg =>
        clear hbi
        go_wp2_with fail
        go_roundw
        case rel => exact ⟨I + 1, by omega, by go_num, HBI.out⟩
        case measure => simp [intOf]; omega
      obtain ⟨b2, o2, v, e2, hb2, _, hv⟩ := HIS.out.get hlt2
      subst e2
      have HV := Lib.hid (fun (W : World) (h : Below w.heap.size w W) => (h.cell (p := ⟨b2, o2 + J, none⟩) (show b2 < w.heap.size by omega)).trans hv)
      have HT := Lib.hid (fun (W : World) (h : Below w.heap.size w W) => HAT.out.keep hb (Keeps.of_below h hB))
      have HRO := Lib.hid (fun (W : World) (h : Below w.heap.size w W) => rof_calls t y B v W (HRU.out.below h hB) (Nat.le_trans hB h.size))
      have hbw : b < wr.heap.size := by have := hbi.size; omega
      have hb2w : b2 < wr.heap.size := by have := hbi.size; omega
      have i0 : (0 : Int) ≤ (I : Int) := by omega
      have i1 : (I : Int) < (n : Int) := by omega
      have i2 : (0 : Int) ≤ (J : Int) := by omega
      have i3 : (J : Int) < (n2 : Int) := by omega
      have hvw := HV.out wr hbi
      obtain ⟨q0, q1, q2, q3, q4, q5⟩ := HT.out wr hbi
      clear hbi hv
      have hsz : w.heap.size ≤ wr.heap.size := HBI.out.size
      have S0 := Lib.hid (show HeldA wr b (o + I * 6) b2 (o2 + J) y v from HeldA.make (w := w) ⟨q0, q1, q2, q3, q4, q5⟩ hvw)
      have HSK := Lib.hid (fun (W : World) (h : Below w.heap.size w W) => (show HeldA W b (o + I * 6) b2 (o2 + J) y v from HeldA.make (w := w) (HT.out W h) (HV.out W h)))
      have nb1 : ¬ b = wr.heap.size := by omega
      have nb2 : ¬ b2 = wr.heap.size := by omega
      have nb3 : ¬ wr.heap.size = b := by omega
      have nb4 : ¬ wr.heap.size = b2 := by omega
      have hbz := Box.new wr zeroTV 29
      have hbz2 := (Box.new wr zeroTV 29).drew
      have hbz3 := Box.new wr.drew zeroTV 29
      simp only [zeroTV, TV.cells, World.size_drew] at hbz hbz2 hbz3
      have HBZ := Lib.hid hbz
      have HBZ2 := Lib.hid hbz2
      have HBZ3 := Lib.hid hbz3
      clear hbz hbz2 hbz3
      go_upto_region 9 with fail
      go_cut [7, 8] from 27 to 38 (fun p e wq => CutA w t v p e wq)
      case first =>
       go_region_held3 (fun w' => w'.cell? ⟨b, o + I * 6, none⟩ = some (.int .i64 y.kind) ∧ w'.cell? ⟨b, o + I * 6 + 1, none⟩ = some (.string y.text) ∧ w'.cell? ⟨b, o + I * 6 + 2, none⟩ = some (.int .i64 y.n) ∧ w'.cell? ⟨b, o + I * 6 + 3, none⟩ = some (.slice y.sa y.sl y.sc) ∧ w'.cell? ⟨b, o + I * 6 + 4, none⟩ = some (.slice y.aa y.al y.ac) ∧ w'.cell? ⟨b, o + I * 6 + 5, none⟩ = some (.slice y.ka y.kl y.kc) ∧ w'.cell? ⟨b2, o2 + J, none⟩ = some (.int .i64 v))
         (first | (with_reducible exact S0.out) | (with_reducible exact S1.out) | go_keep | ((try dsimp only); (repeat' apply And.intro); (all_goals go_keep)))
         (first
           | (go_at_call 7; (with_reducible refine (HRO.out _ (by first | exact HBI.out | exact HBI.out.drew | exact HBI.out.alloc HBI.out.size _ | exact (HBI.out.alloc HBI.out.size _).drew | exact HBI.out.drew.alloc HBI.out.size _)).mono ?_); rintro e w1 ⟨u, rfl, hr1, hb1⟩; have HB1 := Lib.hid (show Below w.heap.size w w1 from by first | exact HBI.out.trans (hb1.mono HBI.out.size) | exact HBI.out.drew.trans (hb1.mono HBI.out.size) | exact (HBI.out.alloc HBI.out.size _).trans (hb1.mono (by simp only [World.size_alloc]; omega)) | exact (HBI.out.alloc HBI.out.size _).drew.trans (hb1.mono (by simp only [World.size_drew, World.size_alloc]; omega)) | exact (HBI.out.drew.alloc HBI.out.size _).trans (hb1.mono (by simp only [World.size_drew, World.size_alloc]; omega))); have S1 := HSK.out _ HB1.out; unfold HeldA at S1; have S1 := Lib.hid S1; have HR1 := Lib.hid hr1; (try (have BX : Box w1 wr.heap.size ⟨0, ⟨#[]⟩, 0, none, 0, 0, none, 0, 0, none, 0, 0⟩ := (by first | (with_reducible exact HBZ.out.below hb1 (by simp only [World.size_alloc]; omega)) | (with_reducible exact HBZ2.out.below hb1 (by simp only [World.size_drew, World.size_alloc]; omega)) | (with_reducible exact HBZ3.out.below hb1 (by simp only [World.size_drew, World.size_alloc]; omega))); have BXH := Lib.hid BX; obtain ⟨z0, z1, z2, z3, z4, z5, zf⟩ := BX)); clear hr1 hb1))
       all_goals
        go_wp2_with fail
        go_meet
        case rel => first | (with_reducible exact CutA.after HB1.out HR1.out) | (with_reducible exact CutA.ahead HB1.out HR1.out BXH.out (by simp only [World.size_drew, World.size_alloc]; omega) hsz)
      case rest =>
       obtain ⟨pb, u, rfl, rfl, hbc, hbu, hru⟩ := hcut
       have HBC := Lib.hid hbc
       have HBU := Lib.hid hbu
       have hpb := hbu.lt
       have HRU2 := Lib.hid hru
       obtain ⟨q0, q1, q2, q3, q4, q5⟩ := HT.out wc hbc
       have hcw : b < wc.heap.size := by have := hbc.size; omega
       have hcw2 : b2 < wc.heap.size := by have := hbc.size; omega
       clear hbc hbu hru
       go_upto_region 11 with fail
       have hba := (Below.refl wc.heap.size wc).alloc (Nat.le_refl _) (.cells y.cells 29)
       have hby := Box.new wc y 29
       simp only [TV.cells] at hba hby
       generalize wc.alloc (.cells #[.int .i64 y.kind, .string y.text, .int .i64 y.n, .slice y.sa y.sl y.sc, .slice y.aa y.al y.ac, .slice y.ka y.kl y.kc] 29) = w3 at hba hby ⊢
       have HC3 := Lib.hid hba
       have HY3 := Lib.hid hby
       have HB3 := Lib.hid (HBC.out.trans (hba.mono HBC.out.size))
       obtain ⟨q0, q1, q2, q3, q4, q5⟩ := HT.out w3 HB3.out
       have hz3 := hby.lt
       clear hba hby
       go_wp2_with fail
       refine (HLI.out _ HB3.out).mono ?_
       rintro e w4 ⟨light, rfl, hlight, hb4⟩
       have HC4 := Lib.hid (HC3.out.trans (hb4.mono (by omega)))
       have HY4 := Lib.hid (HY3.out.below hb4 hz3)
       have HB4 := Lib.hid (HB3.out.trans (hb4.mono HB3.out.size))
       have HLT := Lib.hid hlight
       have hz4 := HY4.out.lt
       clear hb4 hlight q0 q1 q2 q3 q4 q5
       obtain ⟨wd, hwd⟩ : ∃ wd : World, wd = wc := ⟨_, rfl⟩
       subst hwd
       cases light
       · obtain ⟨q0, q1, q2, q3, q4, q5, qf⟩ := HY4.out
         have HR4 := Lib.hid (Rep.mono (Nat.le_trans hB HB4.out.size) _ _ (HRU.out.below HB4.out hB))
         dsimp only
         go_upto_region 14 with fail
         have HV6 := Lib.hid (fun (W : World) (h : Below w4.heap.size w4 W) => HV.out W (HB4.out.trans (h.mono HB4.out.size)))
         have HOF := Lib.hid (fun (W : World) (h : Below w4.heap.size w4 W) => of_calls t y w4.heap.size v W (HR4.out.below h (Nat.le_refl _)) h.size)
         simp only [TV.val, TV.cells] at HOF
         have hv6 := HV6.out w4 (Below.refl _ _)
         have hp9 : wd.heap.size < w4.heap.size := HY4.out.lt
         have S0 := Lib.hid (show HeldB w4 wd.heap.size b2 (o2 + J) y v from HeldB.make HY4.out (HV6.out _ (Below.refl _ _)))
         have HSK2 := Lib.hid (fun (W : World) (h : Below w4.heap.size w4 W) => (show HeldB W wd.heap.size b2 (o2 + J) y v from HeldB.make (HY4.out.below h hp9) (HV6.out W h)))
         have cc1 : ¬ wd.heap.size = w4.heap.size := by omega
         have cc2 : ¬ w4.heap.size = wd.heap.size := by omega
         have cc3 : ¬ b2 = w4.heap.size := by omega
         have cc4 : ¬ w4.heap.size = b2 := by omega
         have gb2 : b2 < w4.heap.size := by omega
         have hbz := Box.new w4 zeroTV 29
         have hbz2 := (Box.new w4 zeroTV 29).drew
         have hbz3 := Box.new w4.drew zeroTV 29
         simp only [zeroTV, TV.cells, World.size_drew] at hbz hbz2 hbz3
         have HBY := Lib.hid hbz
         have HBY2 := Lib.hid hbz2
         have HBY3 := Lib.hid hbz3
         clear hbz hbz2 hbz3
         go_cut [11, 12] from 53 to 61 (fun p e wq => CutA w4 t v p e wq)
         case first =>
          go_region_held3 (fun w' => w'.cell? ⟨wd.heap.size, 0, none⟩ = some (.int .i64 y.kind) ∧ w'.cell? ⟨wd.heap.size, 1, none⟩ = some (.string y.text) ∧ w'.cell? ⟨wd.heap.size, 2, none⟩ = some (.int .i64 y.n) ∧ w'.cell? ⟨wd.heap.size, 3, none⟩ = some (.slice y.sa y.sl y.sc) ∧ w'.cell? ⟨wd.heap.size, 4, none⟩ = some (.slice y.aa y.al y.ac) ∧ w'.cell? ⟨wd.heap.size, 5, none⟩ = some (.slice y.ka y.kl y.kc) ∧ w'.cell? ⟨b2, o2 + J, none⟩ = some (.int .i64 v))
            (first | (with_reducible exact S0.out) | (with_reducible exact S1.out) | go_keep | ((try dsimp only); (repeat' apply And.intro); (all_goals go_keep)))
            (first
              | (go_at_call 10; (with_reducible refine (HOF.out _ (by first | exact Below.refl _ _ | exact (Below.refl _ _).drew | exact (Below.refl _ _).alloc (Nat.le_refl _) _ | exact ((Below.refl _ _).alloc (Nat.le_refl _) _).drew | exact (Below.refl _ _).drew.alloc (Nat.le_refl _) _)).mono ?_); rintro e w7 ⟨z, FZ, rfl, hO7, hF7, hb7⟩; simp only [TV.val, TV.cells]; have HB7 := Lib.hid (show Below w4.heap.size w4 w7 from by first | exact hb7 | exact (Below.refl _ _).drew.trans hb7 | exact ((Below.refl _ _).alloc (Nat.le_refl _) _).trans (hb7.mono (by simp only [World.size_alloc]; omega)) | exact ((Below.refl _ _).alloc (Nat.le_refl _) _).drew.trans (hb7.mono (by simp only [World.size_drew, World.size_alloc]; omega)) | exact ((Below.refl _ _).drew.alloc (Nat.le_refl _) _).trans (hb7.mono (by simp only [World.size_drew, World.size_alloc]; omega))); have S1 := HSK2.out _ HB7.out; unfold HeldB at S1; have S1 := Lib.hid S1; have HO7 := Lib.hid hO7; have HF7 := Lib.hid hF7; (try (have BX : Box w7 w4.heap.size ⟨0, ⟨#[]⟩, 0, none, 0, 0, none, 0, 0, none, 0, 0⟩ := (by first | (with_reducible exact HBY.out.below hb7 (by simp only [World.size_alloc]; omega)) | (with_reducible exact HBY2.out.below hb7 (by simp only [World.size_drew, World.size_alloc]; omega)) | (with_reducible exact HBY3.out.below hb7 (by simp only [World.size_drew, World.size_alloc]; omega))); have BXH := Lib.hid BX; obtain ⟨z0, z1, z2, z3, z4, z5, zf⟩ := BX)); clear hO7 hF7 hb7))
          all_goals
           go_wp2_with fail
           go_meet
           case rel => first | (with_reducible exact CutA.after' HB7.out (HO7.out.rep _ _ _ (fun b hb => HF7.out.hi b hb))) | (with_reducible exact CutA.ahead' HB7.out HO7.out HF7.out BXH.out (by simp only [World.size_drew, World.size_alloc]; omega) (Nat.le_refl _))
         case rest =>
          obtain ⟨pz, z, rfl, rfl, hb8, hbz8, hrz8⟩ := hcut
          have HB8 := Lib.hid (HB4.out.trans (hb8.mono HB4.out.size))
          have HC8 := Lib.hid (HC4.out.trans (hb8.mono (Nat.le_of_lt hp9)))
          have HR8 := Lib.hid hrz8
          have HU8 := Lib.hid (Rep.mono HC8.out.size _ _ (HRU2.out.below HC8.out (Nat.le_refl _)))
          have HEQ := Lib.hid (fun (W : World) (h : Below wc.heap.size wc W) => eq_calls (T.ofT t v) z u W (Rep.mono h.size _ _ (HR8.out.below h (Nat.le_refl _))) (Rep.mono h.size _ _ (HU8.out.below h (Nat.le_refl _))) (ofT_fits t v))
          simp only [TV.val, TV.cells] at HEQ
          have H8 := Lib.hid hb8
          have hbu8 := HBU.out.below HC8.out hpb
          obtain ⟨z0, z1, z2, z3, z4, z5, zf⟩ := hbz8
          obtain ⟨g0, g1, g2, g3, g4, g5, gf⟩ := hbu8
          clear hb8 hrz8
          go_wp2_with fail
          refine (HEQ.out _ (Below.refl _ _)).mono ?_
          rintro e w9 ⟨rfl, hb9⟩
          have H9 := Lib.hid (H8.out.trans (hb9.mono H8.out.size))
          have HB9 := Lib.hid (HB8.out.trans (hb9.mono HB8.out.size))
          clear hb9 z0 z1 z2 z3 z4 z5 zf g0 g1 g2 g3 g4 g5 gf
          go_wp2_with fail
          go_quiet (fail)
          go_wp2_with fail
          go_roundw
          case rel => exact ⟨J + 1, by omega, by go_num, below_drewN HB9.out _⟩
          case measure => simp [intOf]; omega
       · obtain ⟨hfit, hsmall⟩ := HLT.out rfl
         have HFIT := Lib.hid hfit
         have HLY := Lib.hid (HLA.out hsmall hfit w4 HB4.out)
         clear hfit hsmall
         obtain ⟨q0, q1, q2, q3, q4, q5, qf⟩ := HY4.out
         go_wp2_with fail
         refine HLY.out.mono ?_
         rintro e w5 ⟨y5, F, rfl, hl5, hF5, hb5⟩
         simp only [TV.val, TV.cells]
         have HY5 := HY4.out.below hb5 hz4
         have HC5 := Lib.hid (HC4.out.trans (hb5.mono (by omega)))
         have HB5 := Lib.hid (HB4.out.trans (hb5.mono HB4.out.size))
         have hz5 := hb5.size
         have HF5 := Lib.hid hF5
         have hY6 := HY5.setAll (y := y5)
         have hL6 := set6_laid hl5 (p := wd.heap.size) (fun hm => by have := hF5.lo _ hm; omega) (.int .i64 y5.kind) (.string y5.text) (.int .i64 y5.n) (.slice y5.sa y5.sl y5.sc) (.slice y5.aa y5.al y5.ac) (.slice y5.ka y5.kl y5.kc)
         have hC6 := set6_below HC5.out (p := wd.heap.size) (Nat.le_refl _) (.int .i64 y5.kind) (.string y5.text) (.int .i64 y5.n) (.slice y5.sa y5.sl y5.sc) (.slice y5.aa y5.al y5.ac) (.slice y5.ka y5.kl y5.kc)
         have hB6 := set6_below HB5.out (p := wd.heap.size) HBC.out.size (.int .i64 y5.kind) (.string y5.text) (.int .i64 y5.n) (.slice y5.sa y5.sl y5.sc) (.slice y5.aa y5.al y5.ac) (.slice y5.ka y5.kl y5.kc)
         have hS6 := set6_size w5 wd.heap.size (.int .i64 y5.kind) (.string y5.text) (.int .i64 y5.n) (.slice y5.sa y5.sl y5.sc) (.slice y5.aa y5.al y5.ac) (.slice y5.ka y5.kl y5.kc)
         clear hb5 hl5 hF5 q0 q1 q2 q3 q4 q5 qf
         obtain ⟨q0, q1, q2, q3, q4, q5, qf⟩ := HY5
         go_upto_region 14 with fail
         generalize (((((w5.setCell ⟨wd.heap.size, 0, none⟩ (.int .i64 y5.kind)).setCell ⟨wd.heap.size, 1, none⟩ (.string y5.text)).setCell ⟨wd.heap.size, 2, none⟩ (.int .i64 y5.n)).setCell ⟨wd.heap.size, 3, none⟩ (.slice y5.sa y5.sl y5.sc)).setCell ⟨wd.heap.size, 4, none⟩ (.slice y5.aa y5.al y5.ac)).setCell ⟨wd.heap.size, 5, none⟩ (.slice y5.ka y5.kl y5.kc) = w6 at hY6 hL6 hC6 hB6 hS6 ⊢
         clear q0 q1 q2 q3 q4 q5 qf
         have HY6 := Lib.hid hY6
         have HL6 := Lib.hid hL6
         have HC6 := Lib.hid hC6
         have HB6 := Lib.hid hB6
         have HS6 := Lib.hid hS6
         have HR6 := Lib.hid (Laid.rep (B := w6.heap.size) t y5 F hL6 (fun b hb => by have := HF5.out.hi b hb; omega))
         have hz6 : w4.heap.size ≤ w6.heap.size := by omega
         obtain ⟨q0, q1, q2, q3, q4, q5, qf⟩ := hY6
         clear hL6 hC6 hB6 hS6
         have HV6 := Lib.hid (fun (W : World) (h : Below w6.heap.size w6 W) => HV.out W (HB6.out.trans (h.mono HB6.out.size)))
         have HOF := Lib.hid (fun (W : World) (h : Below w6.heap.size w6 W) => of_calls t y5 w6.heap.size v W (HR6.out.below h (Nat.le_refl _)) h.size)
         simp only [TV.val, TV.cells] at HOF
         have hv6 := HV6.out w6 (Below.refl _ _)
         have hp9 : wd.heap.size < w6.heap.size := HY6.out.lt
         have S0 := Lib.hid (show HeldB w6 wd.heap.size b2 (o2 + J) y5 v from HeldB.make HY6.out (HV6.out _ (Below.refl _ _)))
         have HSK2 := Lib.hid (fun (W : World) (h : Below w6.heap.size w6 W) => (show HeldB W wd.heap.size b2 (o2 + J) y5 v from HeldB.make (HY6.out.below h hp9) (HV6.out W h)))
         have cc1 : ¬ wd.heap.size = w6.heap.size := by omega
         have cc2 : ¬ w6.heap.size = wd.heap.size := by omega
         have cc3 : ¬ b2 = w6.heap.size := by omega
         have cc4 : ¬ w6.heap.size = b2 := by omega
         have gb2 : b2 < w6.heap.size := by omega
         have hbz := Box.new w6 zeroTV 29
         have hbz2 := (Box.new w6 zeroTV 29).drew
         have hbz3 := Box.new w6.drew zeroTV 29
         simp only [zeroTV, TV.cells, World.size_drew] at hbz hbz2 hbz3
         have HBY := Lib.hid hbz
         have HBY2 := Lib.hid hbz2
         have HBY3 := Lib.hid hbz3
         clear hbz hbz2 hbz3
         go_cut [11, 12] from 53 to 61 (fun p e wq => CutA w6 t v p e wq)
         case first =>
          go_region_held3 (fun w' => w'.cell? ⟨wd.heap.size, 0, none⟩ = some (.int .i64 y5.kind) ∧ w'.cell? ⟨wd.heap.size, 1, none⟩ = some (.string y5.text) ∧ w'.cell? ⟨wd.heap.size, 2, none⟩ = some (.int .i64 y5.n) ∧ w'.cell? ⟨wd.heap.size, 3, none⟩ = some (.slice y5.sa y5.sl y5.sc) ∧ w'.cell? ⟨wd.heap.size, 4, none⟩ = some (.slice y5.aa y5.al y5.ac) ∧ w'.cell? ⟨wd.heap.size, 5, none⟩ = some (.slice y5.ka y5.kl y5.kc) ∧ w'.cell? ⟨b2, o2 + J, none⟩ = some (.int .i64 v))
            (first | (with_reducible exact S0.out) | (with_reducible exact S1.out) | go_keep | ((try dsimp only); (repeat' apply And.intro); (all_goals go_keep)))
            (first
              | (go_at_call 10; (with_reducible refine (HOF.out _ (by first | exact Below.refl _ _ | exact (Below.refl _ _).drew | exact (Below.refl _ _).alloc (Nat.le_refl _) _ | exact ((Below.refl _ _).alloc (Nat.le_refl _) _).drew | exact (Below.refl _ _).drew.alloc (Nat.le_refl _) _)).mono ?_); rintro e w7 ⟨z, FZ, rfl, hO7, hF7, hb7⟩; simp only [TV.val, TV.cells]; have HB7 := Lib.hid (show Below w6.heap.size w6 w7 from by first | exact hb7 | exact (Below.refl _ _).drew.trans hb7 | exact ((Below.refl _ _).alloc (Nat.le_refl _) _).trans (hb7.mono (by simp only [World.size_alloc]; omega)) | exact ((Below.refl _ _).alloc (Nat.le_refl _) _).drew.trans (hb7.mono (by simp only [World.size_drew, World.size_alloc]; omega)) | exact ((Below.refl _ _).drew.alloc (Nat.le_refl _) _).trans (hb7.mono (by simp only [World.size_drew, World.size_alloc]; omega))); have S1 := HSK2.out _ HB7.out; unfold HeldB at S1; have S1 := Lib.hid S1; have HO7 := Lib.hid hO7; have HF7 := Lib.hid hF7; (try (have BX : Box w7 w6.heap.size ⟨0, ⟨#[]⟩, 0, none, 0, 0, none, 0, 0, none, 0, 0⟩ := (by first | (with_reducible exact HBY.out.below hb7 (by simp only [World.size_alloc]; omega)) | (with_reducible exact HBY2.out.below hb7 (by simp only [World.size_drew, World.size_alloc]; omega)) | (with_reducible exact HBY3.out.below hb7 (by simp only [World.size_drew, World.size_alloc]; omega))); have BXH := Lib.hid BX; obtain ⟨z0, z1, z2, z3, z4, z5, zf⟩ := BX)); clear hO7 hF7 hb7))
          all_goals
           go_wp2_with fail
           go_meet
           case rel => first | (with_reducible exact CutA.after' HB7.out (HO7.out.rep _ _ _ (fun b hb => HF7.out.hi b hb))) | (with_reducible exact CutA.ahead' HB7.out HO7.out HF7.out BXH.out (by simp only [World.size_drew, World.size_alloc]; omega) (Nat.le_refl _))
         case rest =>
          obtain ⟨pz, z, rfl, rfl, hb8, hbz8, hrz8⟩ := hcut
          have HB8 := Lib.hid (HB6.out.trans (hb8.mono HB6.out.size))
          have HC8 := Lib.hid (HC6.out.trans (hb8.mono (Nat.le_of_lt hp9)))
          have HR8 := Lib.hid hrz8
          have HU8 := Lib.hid (Rep.mono HC8.out.size _ _ (HRU2.out.below HC8.out (Nat.le_refl _)))
          have HEQ := Lib.hid (fun (W : World) (h : Below wc.heap.size wc W) => eq_calls (T.ofT t v) z u W (Rep.mono h.size _ _ (HR8.out.below h (Nat.le_refl _))) (Rep.mono h.size _ _ (HU8.out.below h (Nat.le_refl _))) (ofT_fits t v))
          simp only [TV.val, TV.cells] at HEQ
          have H8 := Lib.hid hb8
          have hbu8 := HBU.out.below HC8.out hpb
          obtain ⟨z0, z1, z2, z3, z4, z5, zf⟩ := hbz8
          obtain ⟨g0, g1, g2, g3, g4, g5, gf⟩ := hbu8
          clear hb8 hrz8
          go_wp2_with fail
          refine (HEQ.out _ (Below.refl _ _)).mono ?_
          rintro e w9 ⟨rfl, hb9⟩
          have H9 := Lib.hid (H8.out.trans (hb9.mono H8.out.size))
          have HB9 := Lib.hid (HB8.out.trans (hb9.mono HB8.out.size))
          clear hb9 z0 z1 z2 z3 z4 z5 zf g0 g1 g2 g3 g4 g5 gf
          have hsz9 := H9.out.size
          have HL9 := Lib.hid (Laid.kept (w' := w9) _ _ _ HL6.out (fun b hb => H9.out.block b (by have := HF5.out.hi b hb; have := HS6.out; omega)))
          have HKE := Lib.hid (fun (W : World) (h : Below w9.heap.size w9 W) => kept_calls t y5 y F W (Laid.kept _ _ _ HL9.out (fun b hb => h.block b (by have := HF5.out.hi b hb; have := HS6.out; omega))) HF5.out.nodup (fun b hb => by have := HF5.out.hi b hb; have := HS6.out; have := h.size; omega) (Rep.mono (by have := HB9.out.size; have := h.size; omega) _ _ (HRU.out.below (HB9.out.trans (h.mono HB9.out.size)) hB)) HFIT.out)
          simp only [TV.val, TV.cells] at HKE
          have hy9 := HY6.out.below H9.out hp9
          obtain ⟨z0, z1, z2, z3, z4, z5, zf⟩ := hy9
          obtain ⟨g0, g1, g2, g3, g4, g5⟩ := HT.out w9 HB9.out
          have hlo : ∀ x ∈ F, w.heap.size ≤ x ∧ wd.heap.size < x := fun x hx => by have := HF5.out.lo x hx; have := HB4.out.size; omega
          have HLO := Lib.hid hlo
          have hb9w : b < w9.heap.size := by omega
          have hd9w : wd.heap.size < w9.heap.size := by omega
          have SK0 := Lib.hid (show HeldC w9 wd.heap.size b (o + I * 6) y5 y from ⟨z0, z1, z2, z3, z4, z5, g0, g1, g2, g3, g4, g5⟩)
          clear hlo
          go_wp2_with fail
          go_region_held3 (fun w' => w'.cell? ⟨wd.heap.size, 0, none⟩ = some (.int .i64 y5.kind) ∧ w'.cell? ⟨wd.heap.size, 1, none⟩ = some (.string y5.text) ∧ w'.cell? ⟨wd.heap.size, 2, none⟩ = some (.int .i64 y5.n) ∧ w'.cell? ⟨wd.heap.size, 3, none⟩ = some (.slice y5.sa y5.sl y5.sc) ∧ w'.cell? ⟨wd.heap.size, 4, none⟩ = some (.slice y5.aa y5.al y5.ac) ∧ w'.cell? ⟨wd.heap.size, 5, none⟩ = some (.slice y5.ka y5.kl y5.kc) ∧ w'.cell? ⟨b, o + I * 6, none⟩ = some (.int .i64 y.kind) ∧ w'.cell? ⟨b, o + I * 6 + 1, none⟩ = some (.string y.text) ∧ w'.cell? ⟨b, o + I * 6 + 2, none⟩ = some (.int .i64 y.n) ∧ w'.cell? ⟨b, o + I * 6 + 3, none⟩ = some (.slice y.sa y.sl y.sc) ∧ w'.cell? ⟨b, o + I * 6 + 4, none⟩ = some (.slice y.aa y.al y.ac) ∧ w'.cell? ⟨b, o + I * 6 + 5, none⟩ = some (.slice y.ka y.kl y.kc))
            (first | (with_reducible exact SK1.out) | go_keep | ((try dsimp only); (repeat' apply And.intro); (all_goals go_keep)))
            (first
              | (go_at_call 12; (with_reducible refine (HKE.out _ (by first | exact Below.refl _ _ | exact (Below.refl _ _).drew)).mono ?_); rintro e w10 ⟨rfl, ho⟩; have HO := Lib.hid (show Outside F w9 w10 from ⟨ho.os, ho.tape, ho.output, ho.size, ho.block⟩); have SK1 := SK0.out.outside HO.out (fun hm => by have := HLO.out _ hm; omega) (fun hm => by have := HLO.out _ hm; omega) hd9w hb9w; unfold HeldC at SK1; have SK1 := Lib.hid SK1; clear ho))
          all_goals
           go_wp2_with fail
           go_roundw
           case rel => exact ⟨J + 1, by omega, by go_num, HO.out.below HB9.out (fun x hx => (HLO.out x hx).1) HB9.out.size⟩
           case measure => simp [intOf]; omega
end Go.Proofs.YtnnhbpgpkpbinaaGreat
