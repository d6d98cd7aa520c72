/- The document's answer, package abacusref13: May of a verb. The document's answer, package abacusref13: Size. The document's answer, package abacusref25: Opens, name. Terms in memory whose blocks are of a set: what the document's answer 25 hands back. Kids as a list of cells, and back: for terms that are made of kids. The document's answer, package abacusref25: term. The document's answer, package abacusref25: term of no kids, of kids that were just laid. The document's answer, package abacusref25: defined. -/
import Derived.Test.YtnnhbpgpkpbinaaGreatMRef9
import Derived.BigQuiet
import Derived.Test.YtnnhbpgpkpbinaaGreatMExpA
import Derived.Test.YtnnhbpgpkpbinaaGreatMOpen8
import Derived.Test.YtnnhbpgpkpbinaaGreatMExpB
import Derived.Deep.Cut
set_option linter.unusedVariables false
set_option linter.unusedSimpArgs false
namespace Go.Proofs.YtnnhbpgpkpbinaaGreat
open Go.RowKit

theorem NodeAt.keep {w w' : World} {g o d B : Nat} {x : TV} {b : Bool} (h : NodeAt w g o x d b) (hg : g < B) (hb : Below B w w') : NodeAt w' g o x d b := by
  have hk := fun o => hb.cell (p := ⟨g, o, none⟩) hg
  exact ⟨(hk _).trans h.c0, (hk _).trans h.c1, (hk _).trans h.c2, (hk _).trans h.c3, (hk _).trans h.c4, (hk _).trans h.c5, (hk _).trans h.c6, (hk _).trans h.c7⟩

theorem all_take {l : List RN} {j : Nat} {n : RN} (h : l[j]? = some n) : (l.take (j + 1)).all RN.right = ((l.take j).all RN.right && n.right) := by
  rw [List.take_add_one, h]
  simp
theorem all_not {l : List RN} {j : Nat} {n : RN} (h : l[j]? = some n) (hn : n.right = false) : l.all RN.right = false := by
  rw [List.all_eq_false]
  exact ⟨n, List.mem_of_getElem? h, by simp [hn]⟩

/-- right, its answer known -/
theorem right_known {n : RN} {x : TV} {B : Nat} {W : World} {v : Bool} (hr : Rep W B n.t x) (hB : B ≤ W.heap.size) (hv : n.right = v) :
    Calls Tryz.prog 40 #[.agg #[.int .i64 x.kind, .string x.text, .int .i64 x.n, .slice x.sa x.sl x.sc, .slice x.aa x.al x.ac, .slice x.ka x.kl x.kc, .int .i64 n.d, .bool n.b]] W fun e w' => e = .returned (.bool v) ∧ Below W.heap.size W w' := by
  have h := right_calls n.t x n.d n.b B W hr hB
  refine h.mono ?_
  rintro e w' ⟨rfl, hb⟩
  exact ⟨by rw [← hv]; rfl, hb⟩

def RMayPost (t : T) (w : World) (e : Ending) (w' : World) : Prop := e = .returned (.int .i64 (T.may t 3)) ∧ Below w.heap.size w w'

set_option maxRecDepth 100000 in
set_option maxHeartbeats 4000000 in
theorem rmay_calls (t : T) (x : TV) (B : Nat) (w : World) (hr : Rep w B t x) (hB : B ≤ w.heap.size) :
    Calls Tryz.prog 20 #[x.val, .int .i64 3] w (RMayPost t w) := by
  have hal := (Below.refl w.heap.size w).alloc (Nat.le_refl _) (.cells x.cells 29)
  have HAL := Lib.hid hal
  have HROW := Lib.hid (row_calls t x B (w.alloc (.cells x.cells 29)) (hr.below hal hB) (by simp; omega))
  have hbx := Box.new w x 29
  have HBX := Lib.hid hbx
  have HK := Lib.hid hr.kind
  have HCL := Lib.hid (fun W => rclass_calls x W)
  clear hr hal hbx
  simp only [TV.val, TV.cells] at HROW HAL HBX HCL ⊢
  have hsz : (w.alloc (.cells #[.int .i64 x.kind, .string x.text, .int .i64 x.n, .slice x.sa x.sl x.sc, .slice x.aa x.al x.ac, .slice x.ka x.kl x.kc] 29)).heap.size = w.heap.size + 1 := by simp
  have hBW : B ≤ (w.alloc (.cells #[.int .i64 x.kind, .string x.text, .int .i64 x.n, .slice x.sa x.sl x.sc, .slice x.aa x.al x.ac, .slice x.ka x.kl x.kc] 29)).heap.size := by omega
  have HSZ := Lib.hid hsz
  have HBW := Lib.hid hBW
  clear hsz hBW
  go_enter Tryz.func20, Tryz.ntmps20
  go_wp2_with (go_at_call 39; refine HROW.out.mono ?_; rintro e w1 (⟨hnf, rfl, hb⟩ | ⟨hf, l, xs, v, rfl, hm, hinv, hlen⟩))
  · go_ret
    refine ⟨ret_int ?_, HAL.out.trans (hb.mono (by rw [HSZ.out]; omega))⟩
    rw [T.may, if_neg (by decide), if_pos hnf]
  · have HE := Lib.hid (hinv.ends hlen)
    have HM := Lib.hid hm
    have HF := Lib.hid hf
    have hn0 : 0 < l.length := by have h1 := HE.out.2.1; have := T.nodes_pos t; omega
    obtain ⟨g, cap, _, rfl, hg, hgl, hlc, hcm, _, _, _⟩ := hm.at HBW.out (j := 0) (n := l[0]) (by simp)
    have HBB := Lib.hid (HAL.out.trans (hm.below.mono (by rw [HSZ.out]; omega)))
    have HBX1 := Lib.hid (HBX.out.below hm.below (by rw [HSZ.out]; omega))
    have hg' : w.heap.size < g := by rw [HSZ.out] at hg; omega
    clear hm hinv hg hf
    go_wp2_with fail
    go_loopw [7] (fun i wr => ∃ j : Nat, j ≤ l.length ∧ i = .int .i64 j ∧ Hid ((l.take j).all RN.right = true) ∧ Below w1.heap.size w1 wr) (fun i _ => l.length - (intOf i).toNat)
    case atStart => exact ⟨0, Nat.zero_le _, rfl, by show (l.take 0).all RN.right = true; simp, Below.refl _ _⟩
    case round =>
      obtain ⟨j, hj, rfl, hok, hbel⟩ := hrel
      have HB := Lib.hid hbel
      clear hbel
      by_cases hlt : j < l.length
      · obtain ⟨n, hn⟩ : ∃ n, l[j]? = some n := ⟨l[j], by simp⟩
        obtain ⟨g', cap', y, e, _, _, _, _, hat, hry, _⟩ := HM.out.at HBW.out (j := j) (n := n) hn
        injection e with e1 _ e3
        injection e1 with e1
        injection e1 with e1 _ _
        subst e1 e3
        have hry' := hry.below HB.out (by have := HM.out.below.size; have := HBW.out; omega)
        obtain ⟨c0, c1, c2, c3, c4, c5, c6, c7⟩ := hat.keep hgl HB.out
        have hBr : B ≤ wr.heap.size := by have := HM.out.below.size; have := HBW.out; have := HB.out.size; omega
        have HN := Lib.hid hn
        cases hv : n.right
        all_goals
          have HC := Lib.hid (right_known hry' hBr hv)
          have HV := Lib.hid hv
          clear hv hat hry hry' hn
          go_wp2_with (go_at_call 40; refine (HC.out).mono ?_; rintro e w2 ⟨rfl, hb2⟩)
          have HB2 := Lib.hid (HB.out.trans (hb2.mono HB.out.size))
          clear hb2 c0 c1 c2 c3 c4 c5 c6 c7
        · go_ret
          refine ⟨ret_int ?_, HBB.out.trans (HB2.out.mono HBB.out.size)⟩
          rw [T.may, if_neg (by decide), if_neg (fun h => h HF.out), if_pos (by rw [← HE.out.2.2.1]; exact all_not HN.out HV.out)]
        · go_roundw
          case rel => exact ⟨j + 1, by omega, by go_num, by show (l.take (j + 1)).all RN.right = true; rw [all_take HN.out, hok.out, HV.out]; rfl, HB2.out⟩
          case measure => simp [intOf]; omega
      · have hall : t.good false = true := by
          rw [← HE.out.2.2.1]
          have := hok.out
          rwa [List.take_of_length_le (by omega)] at this
        have HG := Lib.hid hall
        have HBY := Lib.hid (HBX1.out.below HB.out HBX1.out.lt)
        obtain ⟨b0, b1, b2, b3, b4, b5, bf⟩ := HBY.out
        clear hall
        go_wp2_with (go_at_call 41; refine (HCL.out _).mono ?_; rintro e w2 ⟨rfl, hb2⟩)
        all_goals go_ret
        all_goals refine ⟨ret_int ?_, HBB.out.trans ((HB.out.trans (hb2.mono HB.out.size)).mono HBB.out.size)⟩
        all_goals rw [T.may, if_neg (by decide), if_neg (fun h => h HF.out), if_neg (by rw [HG.out]; decide), ← HK.out]
        all_goals first
          | (rw [if_pos (by simpa using ‹(T.cls x.kind != 3) = true›)]; done)
          | (rw [if_neg (by simpa using ‹(T.cls x.kind != 3) = false›)]; done)
          | (simp_all; done)
end Go.Proofs.YtnnhbpgpkpbinaaGreat

namespace Go.Proofs.YtnnhbpgpkpbinaaGreat
open Go.RowKit

def RSizePost (t : T) (w : World) (e : Ending) (w' : World) : Prop := e = .returned (.tuple #[.int .i64 t.sizeN, .int .i64 t.sizeD]) ∧ Below w.heap.size w w'

set_option maxRecDepth 100000 in
set_option maxHeartbeats 4000000 in
theorem rsize_calls (t : T) (x : TV) (B : Nat) (w : World) (hr : Rep w B t x) (hB : B ≤ w.heap.size) :
    Calls Tryz.prog 21 #[x.val] w (RSizePost t w) := by
  have hal := (Below.refl w.heap.size w).alloc (Nat.le_refl _) (.cells x.cells 29)
  have HAL := Lib.hid hal
  have HROW := Lib.hid (row_calls t x B (w.alloc (.cells x.cells 29)) (hr.below hal hB) (by simp; omega))
  clear hr hal
  simp only [TV.val, TV.cells] at HROW HAL ⊢
  have hsz : (w.alloc (.cells #[.int .i64 x.kind, .string x.text, .int .i64 x.n, .slice x.sa x.sl x.sc, .slice x.aa x.al x.ac, .slice x.ka x.kl x.kc] 29)).heap.size = w.heap.size + 1 := by simp
  have hBW : B ≤ (w.alloc (.cells #[.int .i64 x.kind, .string x.text, .int .i64 x.n, .slice x.sa x.sl x.sc, .slice x.aa x.al x.ac, .slice x.ka x.kl x.kc] 29)).heap.size := by omega
  have HSZ := Lib.hid hsz
  have HBW := Lib.hid hBW
  clear hsz hBW
  go_enter Tryz.func21, Tryz.ntmps21
  go_wp2_with (go_at_call 39; refine HROW.out.mono ?_; rintro e w1 (⟨hnf, rfl, hb⟩ | ⟨hf, l, xs, v, rfl, hm, hinv, hlen⟩))
  · refine bodyPost_ret (v := .tuple #[.int .i64 4097, .int .i64 257]) (by simp [results, Tryz.results21, go_sem]) rfl ?_
    refine ⟨?_, HAL.out.trans (hb.mono (by rw [HSZ.out]; omega))⟩
    rw [T.sizeN, T.sizeD, if_neg hnf, if_neg hnf]; rfl
  · have HE := Lib.hid (hinv.ends hlen)
    have HF := Lib.hid hf
    have hn0 : 0 < l.length := by have h1 := HE.out.2.1; have := T.nodes_pos t; omega
    obtain ⟨l', n, hl'⟩ : ∃ l' n, l = l' ++ [n] := ⟨l.dropLast, l.getLast (by intro h; simp [h] at hn0), (List.dropLast_concat_getLast _).symm⟩
    have hd := HE.out.2.2.2 l' n hl'
    have hLk : l.length = l'.length + 1 := by rw [hl']; simp
    obtain ⟨g, cap, y, rfl, hg, hgl, hlc, hcm, ⟨c0, c1, c2, c3, c4, c5, c6, c7⟩, _, _⟩ := hm.at HBW.out (j := l'.length) (n := n) (by rw [hl']; simp)
    have HBB := Lib.hid (HAL.out.trans (hm.below.mono (by rw [HSZ.out]; omega)))
    have HD := Lib.hid hd
    have HLN := Lib.hid HE.out.2.1
    rw [hLk] at hlc HLN hlen
    rw [hLk]
    generalize l'.length = m at *
    clear hm hinv hg hf hl' hd c0 c1 c2 c3 c4 c5 c7 hLk hn0
    go_wp2_with fail
    go_quiet (fail)
    go_wp2_with fail
    refine bodyPost_ret (v := .tuple #[.int .i64 ((m : Int) + 1), .int .i64 n.d]) (by simp [results, Tryz.results21, go_sem]) rfl ?_
    refine ⟨?_, below_drewN HBB.out _⟩
    rw [T.sizeN, T.sizeD, if_pos HF.out, if_pos HF.out, ← HLN.out, ← HD.out]
    rfl
end Go.Proofs.YtnnhbpgpkpbinaaGreat

namespace Go.Proofs.YtnnhbpgpkpbinaaGreat
open Go.RowKit

theorem ropens_calls (x : TV) (v : Int) (w : World) : Calls Tryz.prog 44 #[x.val, .int .i64 v] w fun e w' => e = .returned (.bool (T.opensK x.kind x.text.data.toList v)) ∧ Below w.heap.size w w' := by
  have HX : Hid (x.text.toList = x.text.data.toList) := ByteArray.toList_eq _
  obtain ⟨kind, text, n, sa, sl, sc, aa, al, ac, ka, kl, kc⟩ := x
  simp only [TV.val, TV.cells] at HX ⊢
  go_enter Tryz.func44, Tryz.ntmps44
  go_wp2_with fail
  all_goals go_ret
  all_goals refine ⟨ret_bool ?_, (Below.refl _ _).alloc (Nat.le_refl _) _⟩
  all_goals rw [← HX.out]
  all_goals first
    | (simp_all [T.opensK]; done)
    | (simp only [beq_iff_eq, beq_eq_false_iff_ne, ne_eq] at *; simp_all [T.opensK]; done)
    | trace_state
end Go.Proofs.YtnnhbpgpkpbinaaGreat

namespace Go.Proofs.YtnnhbpgpkpbinaaGreat
open Go.RowKit

def IntsS (w : World) (S : Nat → Prop) (A : Option Addr) (len : Nat) (xs : List Int) : Prop :=
  xs.length = len ∧ (0 < len → ∃ b o, A = some ⟨b, o, none⟩ ∧ S b ∧ ∀ (i : Nat) (v : Int), xs[i]? = some v → w.cell? ⟨b, o + i, none⟩ = some (.int .i64 v))
mutual
/-- Six cells read as a term, all lists in blocks of a set. -/
def RepS (w : World) (S : Nat → Prop) : T → TV → Prop
  | .mk k s n sh a l, x => Wee x ∧ x.kind = k ∧ x.text = s ∧ x.n = n ∧ IntsS w S x.sa x.sl sh ∧ IntsS w S x.aa x.al a ∧ x.kl = l.length ∧ RepSL w S l x.ka 0
def RepSL (w : World) (S : Nat → Prop) : List T → Option Addr → Nat → Prop
  | [], _, _ => True
  | t :: l, A, i => (∃ b o x, A = some ⟨b, o, none⟩ ∧ S b ∧ At w b (o + i * 6) x ∧ RepS w S t x) ∧ RepSL w S l A (i + 1)
end
theorem RepSL_iff (w : World) (S : Nat → Prop) (l : List T) (A : Option Addr) (i : Nat) :
    RepSL w S l A i ↔ ∀ (j : Nat) (t : T), l[j]? = some t → ∃ b o x, A = some ⟨b, o, none⟩ ∧ S b ∧ At w b (o + (i + j) * 6) x ∧ RepS w S t x := by
  induction l generalizing i with
  | nil => simp [RepSL]
  | cons t l ih =>
    simp only [RepSL, ih]
    constructor
    · rintro ⟨h0, h1⟩ j u hu
      cases j with
      | zero => simp at hu; subst hu; exact h0
      | succ j =>
        have := h1 j u (by simpa using hu)
        rwa [show i + 1 + j = i + (j + 1) from by omega] at this
    · intro h
      refine ⟨h 0 t (by simp), fun j u hu => ?_⟩
      have := h (j + 1) u (by simpa using hu)
      rwa [show i + (j + 1) = i + 1 + j from by omega] at this
theorem RepS_iff (w : World) (S : Nat → Prop) (t : T) (x : TV) : RepS w S t x ↔
    Wee x ∧ x.kind = t.kind ∧ x.text = t.text ∧ x.n = t.n ∧ IntsS w S x.sa x.sl t.shape ∧ IntsS w S x.aa x.al t.atoms ∧ x.kl = t.kids.length ∧
      ∀ (j : Nat) (u : T), t.kids[j]? = some u → ∃ b o y, x.ka = some ⟨b, o, none⟩ ∧ S b ∧ At w b (o + j * 6) y ∧ RepS w S u y := by
  cases t with
  | mk k s n sh a l =>
    simp only [RepS, RepSL_iff, T.kind_mk, T.text_mk, T.n_mk, T.shape_mk, T.atoms_mk, T.kids_mk, Nat.zero_add]
theorem IntsS.keep {w w' : World} {S S' : Nat → Prop} {A : Option Addr} {len : Nat} {xs : List Int} (h : IntsS w S A len xs) (hk : ∀ b o, S b → w'.cell? ⟨b, o, none⟩ = w.cell? ⟨b, o, none⟩) (hs : ∀ b, S b → S' b) : IntsS w' S' A len xs :=
  ⟨h.1, fun hl => by
    obtain ⟨b, o, e, hb, hc⟩ := h.2 hl
    exact ⟨b, o, e, hs b hb, fun i v hv => (hk b _ hb).trans (hc i v hv)⟩⟩
theorem At.same {w w' : World} {b o : Nat} {x : TV} (h : At w b o x) (hk : ∀ o, w'.cell? ⟨b, o, none⟩ = w.cell? ⟨b, o, none⟩) : At w' b o x :=
  ⟨(hk _).trans h.c0, (hk _).trans h.c1, (hk _).trans h.c2, (hk _).trans h.c3, (hk _).trans h.c4, (hk _).trans h.c5⟩
theorem RepS.keep {w w' : World} {S S' : Nat → Prop} (hk : ∀ b o, S b → w'.cell? ⟨b, o, none⟩ = w.cell? ⟨b, o, none⟩) (hs : ∀ b, S b → S' b) (t : T) : ∀ x, RepS w S t x → RepS w' S' t x := by
  refine T.ind (P := fun t => ∀ x, RepS w S t x → RepS w' S' t x) ?_ t
  intro k s n sh a l ih x h
  rw [RepS_iff] at h ⊢
  obtain ⟨h0, h1, h2, h3, h4, h5, h6, h7⟩ := h
  refine ⟨h0, h1, h2, h3, h4.keep hk hs, h5.keep hk hs, h6, fun j u hu => ?_⟩
  obtain ⟨b, o, y, e, hb, hat, hr⟩ := h7 j u hu
  exact ⟨b, o, y, e, hs b hb, hat.same (fun o => hk b o hb), ih u (List.mem_of_getElem? hu) y hr⟩
theorem Rep.toS {w : World} {B : Nat} (t : T) : ∀ x, Rep w B t x → RepS w (· < B) t x := by
  refine T.ind (P := fun t => ∀ x, Rep w B t x → RepS w (· < B) t x) ?_ t
  intro k s n sh a l ih x h
  rw [Rep_iff] at h
  rw [RepS_iff]
  obtain ⟨h0, h1, h2, h3, h4, h5, h6, h7⟩ := h
  refine ⟨h0, h1, h2, h3, h4, h5, h6, fun j u hu => ?_⟩
  obtain ⟨b, o, y, e, hb, hat, hr⟩ := h7 j u hu
  exact ⟨b, o, y, e, hb, hat, ih u (List.mem_of_getElem? hu) y hr⟩
theorem RepS.rep {w : World} {B : Nat} {S : Nat → Prop} (hs : ∀ b, S b → b < B) (t : T) : ∀ x, RepS w S t x → Rep w B t x := by
  refine T.ind (P := fun t => ∀ x, RepS w S t x → Rep w B t x) ?_ t
  intro k s n sh a l ih x h
  rw [RepS_iff] at h
  rw [Rep_iff]
  obtain ⟨h0, h1, h2, h3, h4, h5, h6, h7⟩ := h
  refine ⟨h0, h1, h2, h3, h4.keep (fun _ _ _ => rfl) hs, h5.keep (fun _ _ _ => rfl) hs, h6, fun j u hu => ?_⟩
  obtain ⟨b, o, y, e, hb, hat, hr⟩ := h7 j u hu
  exact ⟨b, o, y, e, hs b hb, hat, ih u (List.mem_of_getElem? hu) y hr⟩
theorem RepS.wee {w : World} {S : Nat → Prop} {t : T} {x : TV} (h : RepS w S t x) : Wee x := ((RepS_iff w S t x).1 h).1
theorem RepS.kind {w : World} {S : Nat → Prop} {t : T} {x : TV} (h : RepS w S t x) : x.kind = t.kind := ((RepS_iff w S t x).1 h).2.1
theorem RepS.text {w : World} {S : Nat → Prop} {t : T} {x : TV} (h : RepS w S t x) : x.text = t.text := ((RepS_iff w S t x).1 h).2.2.1
theorem RepS.kl {w : World} {S : Nat → Prop} {t : T} {x : TV} (h : RepS w S t x) : x.kl = t.kids.length := ((RepS_iff w S t x).1 h).2.2.2.2.2.2.1
theorem RepS.kid {w : World} {S : Nat → Prop} {t : T} {x : TV} (h : RepS w S t x) {j : Nat} {u : T} (hj : t.kids[j]? = some u) : ∃ b o y, x.ka = some ⟨b, o, none⟩ ∧ S b ∧ At w b (o + j * 6) y ∧ RepS w S u y :=
  ((RepS_iff w S t x).1 h).2.2.2.2.2.2.2 j u hj
/-- a later world: nothing below has turned -/
theorem RepS.below {w w' : World} {S : Nat → Prop} {t : T} {x : TV} {B : Nat} (h : RepS w S t x) (hb : Below B w w') (hS : ∀ b, S b → b < B) : RepS w' S t x :=
  RepS.keep (fun b o hb' => hb.cell (p := ⟨b, o, none⟩) (hS b hb')) (fun _ h => h) t x h
theorem RepS.mono {w : World} {S S' : Nat → Prop} {t : T} {x : TV} (h : RepS w S t x) (hs : ∀ b, S b → S' b) : RepS w S' t x := RepS.keep (fun _ _ _ => rfl) hs t x h

/-- the blocks of a set, and those that are new -/
def Adds (S : Nat → Prop) (w w' : World) : Nat → Prop := fun b => S b ∨ (w.heap.size ≤ b ∧ b < w'.heap.size)
theorem Adds.lt {S : Nat → Prop} {w w' : World} (hS : ∀ b, S b → b < w.heap.size) (hz : w.heap.size ≤ w'.heap.size) : ∀ b, Adds S w w' b → b < w'.heap.size := by
  rintro b (h | h)
  · have := hS b h; omega
  · exact h.2
/-- a term is answered that reads as u -/
def TermPost (S : Nat → Prop) (u : T) (w : World) (e : Ending) (w' : World) : Prop := ∃ y, e = .returned (TV.val y) ∧ RepS w' (Adds S w w') u y ∧ Below w.heap.size w w'
/-- the result's variable written: what is handed back -/
theorem term_ends {S S3 : Nat → Prop} {u : T} {w w3 : World} {y : TV} {rb : Nat} (hr : RepS w3 S3 u y) (hB : Below w.heap.size w w3) (hrb : w.heap.size ≤ rb) (hne : ¬ S3 rb) (hs : ∀ b, S3 b → Adds S w w3 b) (a0 a1 a2 a3 a4 a5 : Value) :
    TermPost S u w (.returned y.val) ((((((w3.setCell ⟨rb, 0, none⟩ a0).setCell ⟨rb, 1, none⟩ a1).setCell ⟨rb, 2, none⟩ a2).setCell ⟨rb, 3, none⟩ a3).setCell ⟨rb, 4, none⟩ a4).setCell ⟨rb, 5, none⟩ a5) := by
  refine ⟨y, rfl, RepS.keep (fun b o hb => cell_of_heap ?_) (fun b hb => ?_) _ _ hr, ?_⟩
  · have hbr : b ≠ rb := fun e => hne (e ▸ hb)
    iterate 6 (refine (Below.heap_setCell _ _ _ _ hbr).trans ?_)
    rfl
  · have := hs b hb
    simpa [Adds, World.setCell] using this
  · iterate 6 (refine Below.setCell ?_ (by simpa using hrb) _)
    exact hB

theorem rep_name (w : World) (S : Nat → Prop) (s : ByteArray) (hs : s.size ≤ 140737488355328) : RepS w S (.mk 2 s 0 [] [] []) ⟨2, s, 0, none, 0, 0, none, 0, 0, none, 0, 0⟩ := by
  refine (RepS_iff _ _ _ _).2 ⟨⟨?_, ?_, ?_, ?_, hs, ?_, ?_, ?_, ?_, ?_, ?_, ?_, ?_, ?_⟩, rfl, rfl, rfl, ⟨rfl, fun h => absurd h (by simp)⟩, ⟨rfl, fun h => absurd h (by simp)⟩, rfl, ?_⟩
  all_goals first | (intro j u h; simp at h; done) | (dsimp only; (try unfold maxLen); omega)
set_option maxRecDepth 100000 in
theorem rnameT_calls (s : ByteArray) (w : World) : Calls Tryz.prog 43 #[.string s] w fun e w' => e = .returned (leafTV 2 s).val ∧ Below w.heap.size w w' := by
  go_enter Tryz.func43, Tryz.ntmps43
  go_wp2_with fail
  refine bodyPost_ret (v := TV.val ⟨2, s, 0, none, 0, 0, none, 0, 0, none, 0, 0⟩) (by simp [results, Tryz.results43, TV.val, TV.cells, go_sem]) rfl ?_
  exact ⟨rfl, by go_grown⟩
end Go.Proofs.YtnnhbpgpkpbinaaGreat

namespace Go.Proofs.YtnnhbpgpkpbinaaGreat
open Go.RowKit

/-- kids in a row, in memory -/
def KidsS (w : World) (S : Nat → Prop) (b o : Nat) (l : List T) : Prop := ∀ (j : Nat) (u : T), l[j]? = some u → ∃ y, At w b (o + j * 6) y ∧ RepS w S u y
theorem kids_list {w : World} {S : Nat → Prop} {b o : Nat} : ∀ {l : List T} {i : Nat}, (∀ (j : Nat) (u : T), l[j]? = some u → ∃ y, At w b (o + (i + j) * 6) y ∧ RepS w S u y) →
    ∃ ys : List TV, ys.length = l.length ∧ ∀ (j : Nat) (u : T), l[j]? = some u → ∃ y, ys[j]? = some y ∧ At w b (o + (i + j) * 6) y ∧ RepS w S u y
  | [], _, _ => ⟨[], rfl, fun j u h => by simp at h⟩
  | t :: l, i, h => by
    obtain ⟨y, hy1, hy2⟩ := h 0 t rfl
    obtain ⟨ys, hl, hys⟩ := kids_list (l := l) (i := i + 1) (fun j u hj => by
      have := h (j + 1) u (by simpa using hj)
      rwa [show i + (j + 1) = i + 1 + j from by omega] at this)
    refine ⟨y :: ys, by simp [hl], fun j u hj => ?_⟩
    cases j with
    | zero => simp at hj; subst hj; exact ⟨y, rfl, hy1, hy2⟩
    | succ j =>
      obtain ⟨z, h1, h2, h3⟩ := hys j u (by simpa using hj)
      exact ⟨z, by simpa using h1, by rwa [show i + (j + 1) = i + 1 + j from by omega], h3⟩

theorem rowCells_get : ∀ (ys : List TV) (j : Nat) (y : TV) (i : Nat), ys[j]? = some y → i < 6 → (rowCells ys)[j * 6 + i]? = y.cells.toList[i]?
  | x :: ys, 0, y, i, h, hi => by
    simp at h
    subst h
    have e : rowCells (x :: ys) = x.cells.toList ++ rowCells ys := by simp [rowCells]
    rw [e, Nat.zero_mul, Nat.zero_add, List.getElem?_append_left (by simp [TV.cells]; omega)]
  | x :: ys, j + 1, y, i, h, hi => by
    have := rowCells_get ys j y i (by simpa using h) hi
    have e : rowCells (x :: ys) = x.cells.toList ++ rowCells ys := by simp [rowCells]
    rw [e, List.getElem?_append_right (by simp [TV.cells]; omega), ← this]
    congr 1
    simp [TV.cells]; omega
  | [], _, _, _, h, _ => by simp at h

/-- a row of terms that was made: where it lies, and its cells -/
theorem row_at {w' : World} {base g n cap : Nat} {ys : List TV} (hrow : w'.ownsRow base 29 6 (.slice (some ⟨g, 0, none⟩) n cap) n (rowCells ys)) :
    base ≤ g ∧ g < w'.heap.size ∧ ∀ (j : Nat) (y : TV), ys[j]? = some y → At w' g (j * 6) y := by
  obtain ⟨hl, ⟨e, _⟩ | ⟨g', cap', cur, e, hg, hcur, hnc, hc, hs, ht⟩⟩ := hrow
  · cases e
  injection e with e1 _ e3
  injection e1 with e1
  injection e1 with e1 _ _
  subst e1
  refine ⟨hg, (Array.getElem?_eq_some_iff.1 hcur).1, fun j y hy => ?_⟩
  have hjl : j < ys.length := (List.getElem?_eq_some_iff.1 hy).1
  rw [rowCells_len] at hl
  have hcell : ∀ i, i < 6 → w'.cell? ⟨g, j * 6 + i, none⟩ = y.cells.toList[i]? := by
    intro i hi
    have h1 := rowCells_get ys j y i hy hi
    rw [← ht, List.getElem?_take, if_pos (by omega)] at h1
    rw [← h1]
    simp [World.cell?, hcur]
  exact ⟨hcell 0 (by omega), hcell 1 (by omega), hcell 2 (by omega), hcell 3 (by omega), hcell 4 (by omega), hcell 5 (by omega)⟩
end Go.Proofs.YtnnhbpgpkpbinaaGreat

namespace Go.Proofs.YtnnhbpgpkpbinaaGreat
open Go.RowKit

theorem rep_node {w : World} {S : Nat → Prop} {k : Int} {l : List T} {g n cap : Nat} (hk : 0 ≤ k ∧ k ≤ 100) (hn : n = l.length) (hn1 : n ≤ 4096) (hc : n ≤ cap) (hcm : cap ≤ maxLen) (hg : S g) (h : KidsS w S g 0 l) :
    RepS w S (.mk k (T.txt []) 0 [] [] l) ⟨k, ⟨#[]⟩, 0, none, 0, 0, none, 0, 0, some ⟨g, 0, none⟩, n, cap⟩ := by
  refine (RepS_iff _ _ _ _).2 ⟨⟨?_, ?_, ?_, ?_, ?_, ?_, ?_, ?_, ?_, ?_, ?_, ?_, ?_, ?_⟩, rfl, rfl, rfl, ⟨rfl, fun h => absurd h (by simp)⟩, ⟨rfl, fun h => absurd h (by simp)⟩, hn, fun j u hj => ?_⟩
  case refine_15 => obtain ⟨y, h1, h2⟩ := h j u hj; exact ⟨g, 0, y, rfl, hg, h1, h2⟩
  all_goals first | (dsimp only; (try unfold maxLen at *); omega) | (show (0 : Nat) ≤ _; omega)

theorem row_cells_at {w : World} {S : Nat → Prop} {b o : Nat} {l : List T} {ys : List TV} (hyl : ys.length = l.length) (hys : ∀ (j : Nat) (u : T), l[j]? = some u → ∃ y, ys[j]? = some y ∧ At w b (o + (0 + j) * 6) y ∧ RepS w S u y) :
    ∀ j u, (rowCells ys)[j]? = some u → w.cell? ⟨b, o + j, none⟩ = some u := by
  intro j u hu
  have hj := (List.getElem?_eq_some_iff.1 hu).1
  rw [rowCells_len] at hj
  obtain ⟨q, r, hr, rfl⟩ : ∃ q r, r < 6 ∧ j = q * 6 + r := ⟨j / 6, j % 6, by omega, by omega⟩
  have hq : q < l.length := by omega
  obtain ⟨y, hy, hat, _⟩ := hys q l[q] (by simp)
  rw [rowCells_get ys q y r hy hr] at hu
  rw [Nat.zero_add] at hat
  rw [← Nat.add_assoc]
  match r, hr, hu with
  | 0, _, hu => simp [TV.cells] at hu; subst hu; exact hat.c0
  | 1, _, hu => simp [TV.cells] at hu; subst hu; exact hat.c1
  | 2, _, hu => simp [TV.cells] at hu; subst hu; exact hat.c2
  | 3, _, hu => simp [TV.cells] at hu; subst hu; exact hat.c3
  | 4, _, hu => simp [TV.cells] at hu; subst hu; exact hat.c4
  | 5, _, hu => simp [TV.cells] at hu; subst hu; exact hat.c5
theorem rowCells_one (ys : List TV) : ∀ u ∈ rowCells ys, u.oneCell' = true := by
  intro u hu
  obtain ⟨y, _, h⟩ := List.mem_flatMap.1 hu
  exact cells_one y u h

set_option maxRecDepth 100000 in
set_option maxHeartbeats 4000000 in
theorem rterm_calls (k : Int) (l : List T) (b o n cap : Nat) (w : World) (S : Nat → Prop) (hS : ∀ b, S b → b < w.heap.size) (hk : 0 ≤ k ∧ k ≤ 100) (hn : n = l.length) (h0 : 0 < n) (hn1 : n ≤ 4096) (h : KidsS w S b o l) :
    Calls Tryz.prog 42 #[.int .i64 k, .slice (some ⟨b, o, none⟩) n cap] w (TermPost S (.mk k (T.txt []) 0 [] [] l) w) := by
  obtain ⟨ys, hyl, hys⟩ := kids_list (w := w) (S := S) (b := b) (o := o) (l := l) (i := 0) (fun j u hj => by rw [Nat.zero_add]; exact h j u hj)
  have HYL := Lib.hid hyl
  have HYS := Lib.hid hys
  have HN := Lib.hid hn
  clear hyl hys hn h
  go_enter Tryz.func42, Tryz.ntmps42
  obtain ⟨i0, hi0, hz0, hz1, hz2⟩ := info_parts info_term0
  have hal := fun o => (Below.refl w.heap.size w).alloc (Nat.le_refl _) o
  have HAL := Lib.hid hal
  clear hal
  go_wp2_with (at_builtin; refine wpList_append_own_at _ rfl _ _ 22 rfl (w.heap.size + 1) 29 i0 _ 6 104 Tryz.underlying22 hi0 hz0 hz1 hz2 rfl (by decide) _ _ _ rfl (World.ownsRow_nil _ _ _ _) ⟨b, o, none⟩ n cap (rowCells ys) rfl (by rw [rowCells_len, HYL.out, ← HN.out]) (fun j u hu => by have h1 := row_cells_at HYL.out HYS.out j u hu; have h2 := World.block_lt_of_cell? w _ h1; rw [WideShapes.add_plain]; exact ((HAL.out _).cell (p := ⟨b, o + j, none⟩) h2).trans h1) (rowCells_one ys) (by unfold maxLen; omega) (by omega) (by simp) ?_)
  intro v' w3 hown hgrow _ hloc
  have hbx := (Box.new w zeroTV 29).grown hgrow (by simp [Value.ownBlock])
  have hb3 : Below w.heap.size w w3 := (HAL.out _).grown hgrow (by simp) (fun g e => by cases e)
  have HB3 := Lib.hid hb3
  have hown0 := hown
  obtain ⟨_, ⟨_, e0⟩ | ⟨g, cap', cur, rfl, hg, _, hnc, hcm, _, _⟩⟩ := hown0
  · omega
  have HO := Lib.hid hown
  obtain ⟨k0, k1, k2, k3, k4, k5, kf⟩ := hbx
  simp only [zeroTV] at k0 k1 k2 k3 k4 k5
  have hgl : w.heap.size < w3.heap.size := World.block_lt_of_cell? _ _ k0
  clear hown hgrow hloc hb3
  go_wp2_with fail
  refine bodyPost_ret (v := TV.val ⟨k, ⟨#[]⟩, 0, none, 0, 0, none, 0, 0, some ⟨g, 0, none⟩, n, cap'⟩) (by simp [results, Tryz.results42, TV.val, TV.cells, k0, k1, k2, k3, k4, k5, kf, go_sem]) rfl ?_
  have hS3 : ∀ b, S b → b < w3.heap.size := fun b hb => by have := hS b hb; have := HB3.out.size; omega
  obtain ⟨hg1, hg2, hrow⟩ := row_at HO.out
  refine term_ends (S3 := fun b => S b ∨ (w.heap.size + 1 ≤ b ∧ b < w3.heap.size)) (rb := w.heap.size) (rep_node hk HN.out hn1 hnc hcm (.inr ⟨hg1, hg2⟩) (fun j u hj => ?_)) HB3.out (Nat.le_refl _) ?_ ?_ _ _ _ _ _ _
  · obtain ⟨y, hy, _, hr⟩ := HYS.out j u hj
    exact ⟨y, by rw [Nat.zero_add]; exact hrow j y hy, (hr.below HB3.out hS).mono (fun _ h => .inl h)⟩
  · rintro (h | h)
    · have := hS _ h; omega
    · omega
  · rintro b (h | h)
    · exact .inl h
    · exact .inr (by omega)
end Go.Proofs.YtnnhbpgpkpbinaaGreat

namespace Go.Proofs.YtnnhbpgpkpbinaaGreat
open Go.RowKit

set_option maxRecDepth 100000 in
theorem rterm_nil (k : Int) (w : World) : Calls Tryz.prog 42 #[.int .i64 k, .slice none 0 0] w fun e w' => e = .returned (leafTV k ⟨#[]⟩).val ∧ Below w.heap.size w w' := by
  go_enter Tryz.func42, Tryz.ntmps42
  go_wp2_with fail
  refine bodyPost_ret (v := (leafTV k ⟨#[]⟩).val) (by simp [results, Tryz.results42, leafTV, TV.val, TV.cells, go_sem]) rfl ?_
  exact ⟨rfl, by go_grown⟩

/-- kids in a block that was just laid -/
theorem kidsS_new {w : World} {S : Nat → Prop} (hS : ∀ b, S b → b < w.heap.size) {l : List T} {ys : List TV} {cs : Array Value} (hc : cs = (rowCells ys).toArray)
    (h : ∀ (j : Nat) (u : T), l[j]? = some u → ∃ y, ys[j]? = some y ∧ RepS w S u y) : KidsS (w.alloc (.cells cs 29)) S w.heap.size 0 l := by
  intro j u hj
  obtain ⟨y, hy, hr⟩ := h j u hj
  have hb := (Below.refl w.heap.size w).alloc (Nat.le_refl _) (.cells cs 29)
  refine ⟨y, ?_, hr.below hb hS⟩
  have hrow : RowAt (w.alloc (.cells cs 29)) w.heap.size ys := rowAt_new rfl hc
  rw [Nat.zero_add]
  have hcell : ∀ i, i < 6 → (w.alloc (.cells cs 29)).cell? ⟨w.heap.size, j * 6 + i, none⟩ = y.cells.toList[i]? := by
    intro i hi
    have h1 := rowCells_get ys j y i hy hi
    obtain ⟨v, hv⟩ : ∃ v, y.cells.toList[i]? = some v := ⟨_, List.getElem?_eq_getElem (by simp [TV.cells]; omega)⟩
    rw [hv]
    rw [hv] at h1
    exact hrow.cell _ _ h1
  exact ⟨hcell 0 (by omega), hcell 1 (by omega), hcell 2 (by omega), hcell 3 (by omega), hcell 4 (by omega), hcell 5 (by omega)⟩

section
variable {w : World} {S : Nat → Prop} (hS : ∀ b, S b → b < w.heap.size)
include hS
/-- term of one kid, two, three -/
theorem rterm_one (k : Int) {u0 : T} {y0 : TV} (hk : 0 ≤ k ∧ k ≤ 100) (h0 : RepS w S u0 y0) :
    Calls Tryz.prog 42 #[.int .i64 k, .slice (some ⟨w.heap.size, 0, none⟩) 1 1] (w.alloc (.cells #[.int .i64 y0.kind, .string y0.text, .int .i64 y0.n, .slice y0.sa y0.sl y0.sc, .slice y0.aa y0.al y0.ac, .slice y0.ka y0.kl y0.kc] 29)) (TermPost S (.mk k (T.txt []) 0 [] [] [u0]) (w.alloc (.cells #[.int .i64 y0.kind, .string y0.text, .int .i64 y0.n, .slice y0.sa y0.sl y0.sc, .slice y0.aa y0.al y0.ac, .slice y0.ka y0.kl y0.kc] 29))) :=
  rterm_calls k [u0] w.heap.size 0 1 1 _ S (fun b hb => by have := hS b hb; simp; omega) hk rfl (by omega) (by omega) (kidsS_new hS (ys := [y0]) (by simp [rowCells, TV.cells]) (fun j u hj => by
    match j, hj with
    | 0, hj => simp at hj; subst hj; exact ⟨y0, rfl, h0⟩
    | j + 1, hj => simp at hj))
theorem rterm_two (k : Int) {u0 u1 : T} {y0 y1 : TV} (hk : 0 ≤ k ∧ k ≤ 100) (h0 : RepS w S u0 y0) (h1 : RepS w S u1 y1) :
    Calls Tryz.prog 42 #[.int .i64 k, .slice (some ⟨w.heap.size, 0, none⟩) 2 2] (w.alloc (.cells #[.int .i64 y0.kind, .string y0.text, .int .i64 y0.n, .slice y0.sa y0.sl y0.sc, .slice y0.aa y0.al y0.ac, .slice y0.ka y0.kl y0.kc, .int .i64 y1.kind, .string y1.text, .int .i64 y1.n, .slice y1.sa y1.sl y1.sc, .slice y1.aa y1.al y1.ac, .slice y1.ka y1.kl y1.kc] 29)) (TermPost S (.mk k (T.txt []) 0 [] [] [u0, u1]) (w.alloc (.cells #[.int .i64 y0.kind, .string y0.text, .int .i64 y0.n, .slice y0.sa y0.sl y0.sc, .slice y0.aa y0.al y0.ac, .slice y0.ka y0.kl y0.kc, .int .i64 y1.kind, .string y1.text, .int .i64 y1.n, .slice y1.sa y1.sl y1.sc, .slice y1.aa y1.al y1.ac, .slice y1.ka y1.kl y1.kc] 29))) :=
  rterm_calls k [u0, u1] w.heap.size 0 2 2 _ S (fun b hb => by have := hS b hb; simp; omega) hk rfl (by omega) (by omega) (kidsS_new hS (ys := [y0, y1]) (by simp [rowCells, TV.cells]) (fun j u hj => by
    match j, hj with
    | 0, hj => simp at hj; subst hj; exact ⟨y0, rfl, h0⟩
    | 1, hj => simp at hj; subst hj; exact ⟨y1, rfl, h1⟩
    | j + 2, hj => simp at hj))
theorem rterm_three (k : Int) {u0 u1 u2 : T} {y0 y1 y2 : TV} (hk : 0 ≤ k ∧ k ≤ 100) (h0 : RepS w S u0 y0) (h1 : RepS w S u1 y1) (h2 : RepS w S u2 y2) :
    Calls Tryz.prog 42 #[.int .i64 k, .slice (some ⟨w.heap.size, 0, none⟩) 3 3] (w.alloc (.cells #[.int .i64 y0.kind, .string y0.text, .int .i64 y0.n, .slice y0.sa y0.sl y0.sc, .slice y0.aa y0.al y0.ac, .slice y0.ka y0.kl y0.kc, .int .i64 y1.kind, .string y1.text, .int .i64 y1.n, .slice y1.sa y1.sl y1.sc, .slice y1.aa y1.al y1.ac, .slice y1.ka y1.kl y1.kc, .int .i64 y2.kind, .string y2.text, .int .i64 y2.n, .slice y2.sa y2.sl y2.sc, .slice y2.aa y2.al y2.ac, .slice y2.ka y2.kl y2.kc] 29)) (TermPost S (.mk k (T.txt []) 0 [] [] [u0, u1, u2]) (w.alloc (.cells #[.int .i64 y0.kind, .string y0.text, .int .i64 y0.n, .slice y0.sa y0.sl y0.sc, .slice y0.aa y0.al y0.ac, .slice y0.ka y0.kl y0.kc, .int .i64 y1.kind, .string y1.text, .int .i64 y1.n, .slice y1.sa y1.sl y1.sc, .slice y1.aa y1.al y1.ac, .slice y1.ka y1.kl y1.kc, .int .i64 y2.kind, .string y2.text, .int .i64 y2.n, .slice y2.sa y2.sl y2.sc, .slice y2.aa y2.al y2.ac, .slice y2.ka y2.kl y2.kc] 29))) :=
  rterm_calls k [u0, u1, u2] w.heap.size 0 3 3 _ S (fun b hb => by have := hS b hb; simp; omega) hk rfl (by omega) (by omega) (kidsS_new hS (ys := [y0, y1, y2]) (by simp [rowCells, TV.cells]) (fun j u hj => by
    match j, hj with
    | 0, hj => simp at hj; subst hj; exact ⟨y0, rfl, h0⟩
    | 1, hj => simp at hj; subst hj; exact ⟨y1, rfl, h1⟩
    | 2, hj => simp at hj; subst hj; exact ⟨y2, rfl, h2⟩
    | j + 3, hj => simp at hj))
end
end Go.Proofs.YtnnhbpgpkpbinaaGreat

namespace Go.Proofs.YtnnhbpgpkpbinaaGreat
open Go.RowKit

theorem repS_setn {w : World} {S : Nat → Prop} {k n m : Int} {s : ByteArray} {sh a : List Int} {l : List T} {x : TV} (h : RepS w S (.mk k s n sh a l) x) (h0 : -9223372036854775808 ≤ m) (h1 : m ≤ 9223372036854775807) : RepS w S (.mk k s m sh a l) { x with n := m } := by
  rw [RepS_iff] at h ⊢
  obtain ⟨⟨a1, a2, a3, a4, a5, a6, a7, a8, a9, a10, a11, a12, a13, a14⟩, h1', h2, h3, h4⟩ := h
  exact ⟨⟨a1, a2, h0, h1, a5, a6, a7, a8, a9, a10, a11, a12, a13, a14⟩, h1', h2, rfl, h4⟩
theorem Adds.below {S : Nat → Prop} {w W w' : World} (hS : ∀ b, S b → b < w.heap.size) (hb : Below w.heap.size w W) (hw : W.heap.size ≤ w'.heap.size) : ∀ b, Adds S W w' b → b < w'.heap.size := by
  rintro b (h | h)
  · have := hS b h; have := hb.size; omega
  · exact h.2

set_option maxRecDepth 100000 in
set_option maxHeartbeats 4000000 in
theorem rdefined_calls (v : Int) (u : T) (y : TV) (w : World) (S : Nat → Prop) (hS : ∀ b, S b → b < w.heap.size) (hv : v = 1 ∨ v = 2) (hr : RepS w S u y) :
    Calls Tryz.prog 22 #[y.val, .int .i64 v] w (TermPost S (T.defT v u) w) := by
  have hb0 := two_below w y
  have hS0 : ∀ b, S b → b < (two w y).heap.size := fun b hb => by have := hS b hb; rw [two_size]; omega
  have h1 := rterm_one hS0 10 (by omega) (hr.below hb0 hS)
  have hsz : (two w y).heap.size = w.heap.size + 1 + 1 := two_size w y
  have hb1 : Below w.heap.size w ((two w y).alloc (.cells #[.int .i64 y.kind, .string y.text, .int .i64 y.n, .slice y.sa y.sl y.sc, .slice y.aa y.al y.ac, .slice y.ka y.kl y.kc] 29)) := by go_grown
  have R0 := Lib.hid ((two_res w y).alloc (.cells #[.int .i64 y.kind, .string y.text, .int .i64 y.n, .slice y.sa y.sl y.sc, .slice y.aa y.al y.ac, .slice y.ka y.kl y.kc] 29))
  have Z0 := Lib.hid (show ((two w y).alloc (.cells #[.int .i64 y.kind, .string y.text, .int .i64 y.n, .slice y.sa y.sl y.sc, .slice y.aa y.al y.ac, .slice y.ka y.kl y.kc] 29)).heap.size = w.heap.size + 3 by simp)
  rw [hsz] at h1
  have HB0 := Lib.hid hb1
  have H1 := Lib.hid h1
  clear h1 hb0 hb1 hsz hS0
  simp only [TV.val, TV.cells]
  go_enter Tryz.func22, Tryz.ntmps22
  go_wp2_with fail
  refine H1.out.mono ?_
  rintro e w1 ⟨y1, rfl, hr1, hb1⟩
  have HB1 := Lib.hid (HB0.out.trans (hb1.mono HB0.out.size))
  have HS1 := Lib.hid (Adds.below hS HB0.out hb1.size)
  have R1 := Lib.hid (R0.out.below hb1 (by have := Z0.out; omega))
  have hz1 : w.heap.size + 3 ≤ w1.heap.size := by have := hb1.size; have := Z0.out; omega
  have H2 := Lib.hid (rterm_one HS1.out 14 (by omega) hr1)
  have HA1 := Lib.hid (fun b (h : Adds S ((two w y).alloc (.cells #[.int .i64 y.kind, .string y.text, .int .i64 y.n, .slice y.sa y.sl y.sc, .slice y.aa y.al y.ac, .slice y.ka y.kl y.kc] 29)) w1 b) => (show S b ∨ (w.heap.size + 3 ≤ b ∧ b < w1.heap.size) by
    rcases h with h | h
    · exact .inl h
    · exact .inr (by have := Z0.out; omega)))
  clear hr1 hb1
  simp only [TV.val, TV.cells]
  go_wp2_with fail
  refine H2.out.mono ?_
  rintro e w2 ⟨y2, rfl, hr2, hb2⟩
  have hal1 := (Below.refl w1.heap.size w1).alloc (Nat.le_refl _) (.cells #[.int .i64 y1.kind, .string y1.text, .int .i64 y1.n, .slice y1.sa y1.sl y1.sc, .slice y1.aa y1.al y1.ac, .slice y1.ka y1.kl y1.kc] 29)
  have hb2' := hal1.trans (hb2.mono hal1.size)
  have HB2 := Lib.hid (HB1.out.trans (hb2'.mono HB1.out.size))
  have HS2 := Lib.hid (Adds.below HS1.out hal1 hb2.size)
  have R2 := Lib.hid (R1.out.below hb2' (by omega))
  have hz2 := hb2'.size
  have H3 := Lib.hid (rterm_one HS2.out 23 (by omega) hr2)
  have HA2 := Lib.hid (fun b (h : Adds (Adds S ((two w y).alloc (.cells #[.int .i64 y.kind, .string y.text, .int .i64 y.n, .slice y.sa y.sl y.sc, .slice y.aa y.al y.ac, .slice y.ka y.kl y.kc] 29)) w1) (w1.alloc (.cells #[.int .i64 y1.kind, .string y1.text, .int .i64 y1.n, .slice y1.sa y1.sl y1.sc, .slice y1.aa y1.al y1.ac, .slice y1.ka y1.kl y1.kc] 29)) w2 b) => (show S b ∨ (w.heap.size + 3 ≤ b ∧ b < w2.heap.size) by
    rcases h with h | h
    · rcases HA1.out b h with h | h
      · exact .inl h
      · exact .inr (by omega)
    · exact .inr (by simp at h; omega)))
  clear hr2 hb2 hal1 hb2'
  simp only [TV.val, TV.cells]
  go_wp2_with fail
  refine H3.out.mono ?_
  rintro e w3 ⟨y3, rfl, hr3, hb3⟩
  have hal2 := (Below.refl w2.heap.size w2).alloc (Nat.le_refl _) (.cells #[.int .i64 y2.kind, .string y2.text, .int .i64 y2.n, .slice y2.sa y2.sl y2.sc, .slice y2.aa y2.al y2.ac, .slice y2.ka y2.kl y2.kc] 29)
  have hb3' := hal2.trans (hb3.mono hal2.size)
  have HB3 := Lib.hid (HB2.out.trans (hb3'.mono HB2.out.size))
  have R3 := R2.out.below hb3' (by omega)
  have hz3 := hb3'.size
  have HR3 := Lib.hid (RepS.mono (S' := fun b => S b ∨ (w.heap.size + 3 ≤ b ∧ b < w3.heap.size)) (repS_setn (m := v) hr3 (by omega) (by omega)) (fun b h => by
    rcases h with h | h
    · rcases HA2.out b h with h | h
      · exact .inl h
      · exact .inr (by omega)
    · exact .inr (by simp at h; omega)))
  clear hr3 hb3 hal2 hb3'
  simp only [TV.val, TV.cells]
  go_upto_region 2 with fail
  have hba := (Below.refl w3.heap.size w3).alloc (Nat.le_refl _) (.cells y3.cells 29)
  have hbox := Box.new w3 y3 29
  have R4 := R3.below hba (by omega)
  simp only [TV.cells] at hba hbox R4
  generalize w3.alloc (.cells #[.int .i64 y3.kind, .string y3.text, .int .i64 y3.n, .slice y3.sa y3.sl y3.sc, .slice y3.aa y3.al y3.ac, .slice y3.ka y3.kl y3.kc] 29) = w4 at hba hbox R4 ⊢
  have HBA := Lib.hid hba
  have hz4 := hbox.lt
  have hne : ¬ w3.heap.size = w.heap.size + 1 := by omega
  have hne' : ¬ w.heap.size + 1 = w3.heap.size := by omega
  obtain ⟨q0, q1, q2, q3, q4, q5, qf⟩ := hbox
  obtain ⟨r0, r1, r2, r3, r4, r5, rf⟩ := R4
  simp only [zeroTV] at r0 r1 r2 r3 r4 r5
  clear hba R3
  go_wp2_with fail
  refine bodyPost_ret (v := TV.val { y3 with n := v }) (by simp [results, Tryz.results22, TV.val, TV.cells, r0, r1, r2, r3, r4, r5, rf, hne, hne', go_sem]) rfl ?_
  have hset : Below w3.heap.size w3 (w4.setCell ⟨w3.heap.size, 2, none⟩ (.int .i64 v)) := HBA.out.setCell (Nat.le_refl _) _
  refine term_ends (S3 := fun b => S b ∨ (w.heap.size + 3 ≤ b ∧ b < w3.heap.size)) (HR3.out.below hset (fun b h => ?_)) (HB3.out.trans (hset.mono HB3.out.size)) (by omega) ?_ ?_ _ _ _ _ _ _
  · rcases h with h | h
    · have := hS b h; omega
    · exact h.2
  · rintro (h | h)
    · have := hS _ h; omega
    · omega
  · rintro b (h | h)
    · exact .inl h
    · exact .inr (by have := hset.size; omega)
end Go.Proofs.YtnnhbpgpkpbinaaGreat
