/- Package space: SetVerb. Package space: SetNoun. -/
import Derived.Test.YtboondbognbnnaaGreatDoorQSD
import Derived.StillTailTactics
import Derived.Deep.RegionHeld3
set_option linter.unusedVariables false
set_option linter.unusedSimpArgs false
namespace Go.Proofs.YtboondbognbnnaaGreatDoor
open Go.RowKit Go.WideMaps
def Names.put (σ : Names) (k : List UInt8) (e : Mng) : Names := fun j => if j = k then some e else σ j
theorem named_excl {k : List UInt8} (h1 : T.named k 65 90 = true) (h2 : T.named k 97 122 = true) : False := by
  cases k with
  | nil => cases h1
  | cons c l =>
    simp only [T.named, Bool.and_eq_true, decide_eq_true_eq] at h1 h2
    omega
theorem lit_ne {j k : List UInt8} (h : j ≠ k) : (Lit.string j) ≠ .string k := fun e => h (by injection e)
theorem isKey (k : List UInt8) : WideAt.IsKeyLit (.string k) := trivial
/-- some workspace with these names -/
def SpN (p : SB) (w : World) (n : Nat) (σ : Names) : Prop := ∃ all DV DN DS, Sp p w all DV DN DS n σ
theorem Sp.mono {p : SB} {w : World} {all : Int} {DV DN DS : DataW Value} {n n' : Nat} {σ : Names} (h : Sp p w all DV DN DS n σ) (hn : n ≤ n') (hl : n' ≤ 100000) : Sp p w all DV DN DS n' σ :=
  ⟨h.box, h.v.mono hn, h.nn.mono hn, h.s.mono hn, hl, h.vn, h.vs, h.ns, h.at_, h.ints, h.hs, h.hv, h.hn⟩
/-- what a laying call answers -/
def SetPost (p : SB) (n : Nat) (σ : Names) (k : List UInt8) (m : Mng) (ok : Prop) (w : World) (e : Ending) (w' : World) : Prop :=
  ∃ r : Int, e = .returned (.int .i64 r) ∧ Turn p w w' ∧ ((r = 0 ∧ ok ∧ SpN p w' (n + 1) (σ.put k m)) ∨ (r ≠ 0 ∧ SpN p w' (n + 1) σ))
/-- a name laid: what holds then -/
theorem verb_laid {p : SB} {w w2 w3 : World} {all all' i : Int} {DV DN DS : DataW Value} {n : Nat} {σ : Names} {k : List UInt8} {t : T} {y : TV} (h : Sp p w all DV DN DS n σ) (hT : Turn p w w2) (hl : n + 1 ≤ 100000)
    (hx : BoxAll p w2 all') (ov : HoldsM w2 p.mv n DV) (on : HoldsM w2 p.mn n DN) (os : HoldsM w2 p.ms (n + 1) (DS.put (.string k) (.held (.int .i64 i)))) (o3 : HoldsM w3 p.mv (n + 1) (DV.put (.string k) (.held y.val))) (hg : w2.grownBy w3 (some p.mv))
    (hn : T.named k 65 90 = true) (hm : T.may t 3 = 0) (hf : t.fits) (hy : RepS w (p.safe w) t y) : Sp p w3 all' (DV.put (.string k) (.held y.val)) DN (DS.put (.string k) (.held (.int .i64 i))) (n + 1) (σ.put k (.verb t)) := by
  obtain ⟨s1, s2, s3⟩ := h.sv
  have hT3 : Turn p w w3 := hT.trans (Turn.of_grown hg (fun g e => by cases e; exact .inr (.inl rfl)))
  have hk : ∀ b, b < w2.heap.size → b ≠ p.mv → w3.heap[b]? = w2.heap[b]? := fun b hb h1 => hg.block b hb (fun e => h1 (Option.some.inj e))
  have mS : Maps.IsMap DS := World.ownsMap.isMap h.s
  have mV : Maps.IsMap DV := World.ownsMap.isMap h.v
  refine ⟨hx.kept (hk _ hx.lt s1) hg.size, o3, (on.at (hk _ on.lt (Ne.symm h.vn))).mono (Nat.le_succ n), os.at (hk _ os.lt (Ne.symm h.vs)), hl, h.vn, h.vs, h.ns, fun j e hj => ?_, fun j hj => ?_, fun j hj => ?_, fun j hj => ?_, fun j hj => ?_⟩
  · unfold Names.put at hj
    split at hj
    · rename_i e1
      subst e1
      cases hj
      exact ⟨Maps.has_put_same mS (isKey _) _, hn, Maps.has_put_same mV (isKey _) _, hf, hm, y, fun z => Maps.atKey_put_same mV (isKey _) _ z, RepS.keep hT3.cell hT3.safe t y hy⟩
    · rename_i hne
      obtain ⟨g1, g2⟩ := h.at_ j e hj
      refine ⟨(Maps.has_put_other (lit_ne hne) _).trans g1, ?_⟩
      have g3 := g2.keep hT3
      cases e with
      | verb u =>
        obtain ⟨h1, h2, h3, h4, x, h5, h6⟩ := g3
        exact ⟨h1, (Maps.has_put_other (lit_ne hne) _).trans h2, h3, h4, x, fun z => (Maps.atKey_put_other (lit_ne hne) _ z).trans (h5 z), h6⟩
      | noun sh a => exact g3
  · by_cases hne : j = k
    · subst hne
      exact ⟨i, fun z => Maps.atKey_put_same mS (isKey _) _ z⟩
    · rw [Maps.has_put_other (lit_ne hne)] at hj
      obtain ⟨i', hi⟩ := h.ints j hj
      exact ⟨i', fun z => (Maps.atKey_put_other (lit_ne hne) _ z).trans (hi z)⟩
  · unfold Names.put
    split
    · rfl
    · rename_i hne
      rw [Maps.has_put_other (lit_ne hne)] at hj
      exact h.hs j hj
  · unfold Names.put
    split
    · exact ⟨t, rfl⟩
    · rename_i hne
      rw [Maps.has_put_other (lit_ne hne)] at hj
      exact h.hv j hj
  · obtain ⟨sh, a, hj'⟩ := h.hn j hj
    unfold Names.put
    split
    · rename_i e1
      subst e1
      exact absurd ((h.at_ _ _ hj').2.1) (fun h2 => named_excl hn h2)
    · exact ⟨sh, a, hj'⟩
theorem Sp.lt {p : SB} {w : World} {all : Int} {DV DN DS : DataW Value} {n : Nat} {σ : Names} (h : Sp p w all DV DN DS n σ) {b : Nat} (hb : p.has b) : b < w.heap.size := by
  rcases hb with rfl | rfl | rfl | rfl
  · exact h.box.lt
  · exact h.v.lt
  · exact h.nn.lt
  · exact h.s.lt
theorem Box.turn {p : SB} {w w' : World} {b : Nat} {x : TV} (h : Box w b x) (ht : Turn p w w') (hb : b < w.heap.size) (hp : ¬ p.has b) : Box w' b x := by
  have hk := ht.block b hb hp
  exact ⟨(cell_of_heap hk).trans h.c0, (cell_of_heap hk).trans h.c1, (cell_of_heap hk).trans h.c2, (cell_of_heap hk).trans h.c3, (cell_of_heap hk).trans h.c4, (cell_of_heap hk).trans h.c5, fun o => (World.frozen?_of_block (a := ⟨b, o, none⟩) hk).trans (h.f o)⟩
theorem room_ret {p : SB} {w : World} {DV DN DS : DataW Value} {n : Nat} {k : List UInt8} {e : Ending} {w' : World} (h : RoomPost p w DV DN DS n k e w') :
    ∃ r : Int, e = .returned (.int .i64 r) ∧ Turn p w w' ∧ ((r = 4 ∧ w' = w) ∨ (r = 0 ∧ ∃ all' i, BoxAll p w' all' ∧ HoldsM w' p.mv n DV ∧ HoldsM w' p.mn n DN ∧ HoldsM w' p.ms (n + 1) (DS.put (.string k) (.held (.int .i64 i))))) := by
  obtain ⟨h1, ⟨rfl, h2⟩ | ⟨rfl, h2⟩⟩ := h
  · exact ⟨4, rfl, h1, .inl ⟨rfl, h2⟩⟩
  · exact ⟨0, rfl, h1, .inr ⟨rfl, h2⟩⟩
theorem copied {w3 : World} (y : TV) (w4 : World) (h : w3.alloc (.cells y.cells 29) = w4) : Below w3.heap.size w3 w4 ∧ Box w4 w3.heap.size y ∧ w4.heap.size = w3.heap.size + 1 := by
  subst h
  exact ⟨(Below.refl _ _).alloc (Nat.le_refl _) _, Box.new w3 y _, by simp⟩
set_option maxRecDepth 100000 in
set_option maxHeartbeats 4000000 in
theorem setVerb_calls {p : SB} {w : World} {all : Int} {DV DN DS : DataW Value} {n : Nat} {σ : Names} {t : T} {x : TV} (h : Sp p w all DV DN DS n σ) (s : ByteArray) (hs : s.size ≤ 140737488355328) (hn : n + 1 ≤ 100000) (hr : RepS w (p.safe w) t x) (hg : Pp.rng t = true) (hT : Tabs w.heap.size w) :
    Calls Tryz.prog 9 #[.pointer (some ⟨p.s, 0, none⟩), .string s, x.val] w (SetPost p n σ s.data.toList (.verb t) (T.named s.data.toList 65 90 = true ∧ T.may t 3 = 0) w) := by
  have hA := (Below.refl w.heap.size w).alloc (Nat.le_refl _) (.cells x.cells 29)
  have hX := Box.new w x 29
  have HV := Lib.hid (isVerb_calls s · hs)
  have hrep : Rep w w.heap.size t x := RepS.rep SB.safe_lt t x hr
  have HREP := Lib.hid (fun W (hb : Below w.heap.size w W) => (Rep.mono hb.size t x (hrep.below hb (Nat.le_refl _)) : Rep W W.heap.size t x))
  have HP := Lib.hid (fun W (hb : Below w.heap.size w W) => printVerb_of (HREP.out W hb) (fun W' hb' => may_calls t x W.heap.size 3 W' ((HREP.out W hb).below hb' (Nat.le_refl _)) hb'.size) hg (hT.up hb hb.size))
  have HSP := Lib.hid h
  have HKEY := Lib.hid (key_mk hs)
  have HA := Lib.hid hA
  have HX := Lib.hid hX
  have HN := Lib.hid (fun W (r : Int) (hb : Below w.heap.size w W) (hr : r ≠ 0) => show SetPost p n σ s.data.toList (.verb t) (T.named s.data.toList 65 90 = true ∧ T.may t 3 = 0) w (.returned (.int .i64 r)) W from ⟨r, rfl, Turn.of_below hb, .inr ⟨hr, all, DV, DN, DS, (h.later hb).mono (Nat.le_succ n) hn⟩⟩)
  have HLE := Lib.hid hn
  clear h hA hX hr hg hT hn hrep
  unfold TV.val at HP ⊢
  unfold TV.cells at HA HX HP ⊢
  unfold PWr at HP
  cases hv : T.named s.data.toList 65 90
  · go_enter Tryz.func9, Tryz.ntmps9
    go_wp2_with (go_at_call 27; refine (HV.out _).mono ?_; rw [hv]; rintro e w1 ⟨rfl, rfl⟩)
    go_ret
    rw [hv] at HN
    exact HN.out _ 1 HA.out (by decide)
  · rw [hv] at HN
    by_cases hm : T.may t 3 = 0 ∧ (Pp.rn (Pp.phrase t)).length ≤ 1048576
    · obtain ⟨h0, hl⟩ := hm
      have hfits := (Pp.may_parts h0).1
      have HC := Lib.hid (fun W (hb : Below w.heap.size w W) => copy_calls t x W.heap.size W (HREP.out W hb) (Nat.le_refl _) hfits)
      unfold TV.val TV.cells at HC
      have HM := Lib.hid (And.intro h0 hfits)
      have HVT := Lib.hid hv
      simp only [h0, hl, and_self, if_true] at HP
      generalize (⟨(Pp.rn (Pp.phrase t)).toArray⟩ : ByteArray) = S at HP
      clear hl h0 hfits HREP
      go_enter Tryz.func9, Tryz.ntmps9
      go_upto_region 1 with fail
      generalize w.alloc _ = w0 at HA HX
      obtain ⟨c0, c1, c2, c3, c4, c5, cf⟩ := HX.out
      have HL0 := Lib.hid HX.out.lt
      go_upto_region 9 with (first
        | (go_at_call 27; refine (HV.out _).mono ?_; rw [hv]; rintro e w1 ⟨rfl, rfl⟩)
        | (go_at_call 28; refine (HP.out _ HA.out).mono ?_; rintro e w2 ⟨rfl, hb2⟩; have HB2 := Lib.hid (HA.out.trans (hb2.mono HA.out.size)); have HX2 := Lib.hid (HX.out.below hb2 HL0.out); clear hb2 c0 c1 c2 c3 c4 c5 cf; obtain ⟨c0, c1, c2, c3, c4, c5, cf⟩ := HX2.out)
        | (go_at_call 29; refine (HC.out _ HB2.out).mono ?_; rintro e w3 ⟨y, F, rfl, hO, hF, hb3⟩; have HB3 := Lib.hid (HB2.out.trans (hb3.mono HB2.out.size)); have HO := Lib.hid hO; have HF := Lib.hid (hF.mono HB2.out.size (Nat.le_refl _)); clear hb3 hO hF c0 c1 c2 c3 c4 c5 cf; simp only [TV.val, TV.cells]))
      generalize hW4 : World.alloc w3 _ = w4
      obtain ⟨hb4, hy4, hz4⟩ := copied y w4 hW4
      have HB4 := Lib.hid (HB3.out.trans (hb4.mono HB3.out.size))
      have HY4 := Lib.hid hy4
      have HZ4 := Lib.hid hz4
      have hsp4 := HSP.out.later HB4.out
      have HSP4 := Lib.hid hsp4
      have hnew : ∀ b, w.heap.size ≤ b → ¬ p.has b := fun b hb hp => by have := HSP.out.lt hp; omega
      have HNEW := Lib.hid hnew
      have HRY := Lib.hid (show RepS w4 (p.safe w4) t y from RepS.keep (w := w3) (S := fun b => w.heap.size ≤ b ∧ b < w3.heap.size) (fun b o hb => cell_of_heap (hb4.block b hb.2)) (fun b hb => ⟨by omega, hnew b hb.1⟩) t y (Own.repS t y F HO.out (fun b hb => ⟨HF.out.lo b hb, HF.out.hi b hb⟩)))
      have HRM := Lib.hid (room_calls hsp4 s S hs)
      clear hW4 hb4 hy4 hz4 hsp4 hnew
      go_upto_region 10 with (go_at_call 30; refine HRM.out.mono ?_; rintro e w5 hc5; obtain ⟨r, rfl, hT5, hc5⟩ := room_ret hc5)
      rcases hc5 with ⟨rfl, rfl⟩ | ⟨rfl, all', i, hbx, hov, hon, hos⟩
      · go_wp2_with fail
        go_ret
        exact HN.out _ 4 HB4.out (by decide)
      · obtain ⟨q0, q1, q2, q3⟩ := hbx.four
        have hz3 := HB3.out.size
        have hy5 := HY4.out.turn hT5 (by have := HZ4.out; omega) (HNEW.out _ hz3)
        obtain ⟨c0, c1, c2, c3, c4, c5, cf⟩ := hy5
        have HT5 := Lib.hid hT5
        have HALL := Lib.hid (And.intro hbx (And.intro hov (And.intro hon hos)))
        have hkey := HKEY.out
        have hnm : n < maxLen := by have := HLE.out; unfold maxLen; omega
        clear hT5 hbx hon hos
        go_wp2_with fail
        refine still_tail 6 (by kernel_rfl) (by kernel_rfl) ?_
        simp only [List.take_succ_cons, List.take_zero, List.drop_succ_cons, List.drop_zero]
        repeat still_step
        refine wpStill_nil ?_
        go_wp2_with (at_mapUpdate; refine wpList_mapUpdate_own _ rfl _ _ _ 65 rfl 9 29 law_string Tryz.underlying65 _ p.mv n _ rfl hov.drew hnm _ _ _ rfl rfl hkey _ [] rfl ?_; intro w6 hown6 hgrow6; have H6 := Lib.hid hown6; have G6 := Lib.hid hgrow6; clear hown6 hgrow6 q0 q1 q2 q3 c0 c1 c2 c3 c4 c5 cf)
        go_ret
        obtain ⟨hbx, hov, hon, hos⟩ := HALL.out
        have G : w5.grownBy w6 (some p.mv) := ⟨G6.out.os, G6.out.tape, G6.out.output, G6.out.size, G6.out.block⟩
        have hT0 : Turn p w w5 := (Turn.of_below HB4.out).trans HT5.out
        have hTF : Turn p w w6 := hT0.trans (Turn.of_grown G (fun g e => by cases e; exact .inr (.inl rfl)))
        exact ⟨0, rfl, hTF, .inl ⟨rfl, ⟨trivial, HM.out.1⟩, all', _, DN, _, verb_laid HSP4.out HT5.out HLE.out hbx hov hon hos H6.out G HVT.out HM.out.1 HM.out.2 HRY.out⟩⟩
    · generalize hE : (if T.may t 3 = 0 then (if (Pp.rn (Pp.phrase t)).length ≤ 1048576 then (0 : Int) else 2) else T.may t 3) = E at HP
      have hE0 : E ≠ 0 := by
        rw [← hE]
        split
        · rename_i h0
          rw [if_neg (fun h1 => hm ⟨h0, h1⟩)]
          decide
        · assumption
      have hE1 : (E != 0) = true := by simpa using hE0
      generalize (if T.may t 3 = 0 ∧ (Pp.rn (Pp.phrase t)).length ≤ 1048576 then (⟨(Pp.rn (Pp.phrase t)).toArray⟩ : ByteArray) else ⟨#[]⟩) = S at HP
      have HE := Lib.hid hE0
      clear hE hm hE0
      go_enter Tryz.func9, Tryz.ntmps9
      go_upto_region 1 with fail
      generalize w.alloc _ = w0 at HA HX
      obtain ⟨c0, c1, c2, c3, c4, c5, cf⟩ := HX.out
      go_wp2_with (first
        | (go_at_call 27; refine (HV.out _).mono ?_; rw [hv]; rintro e w1 ⟨rfl, rfl⟩)
        | (go_at_call 28; refine (HP.out _ HA.out).mono ?_; rintro e w2 ⟨rfl, hb2⟩; have HB2 := Lib.hid (HA.out.trans (hb2.mono HA.out.size)); clear hb2 c0 c1 c2 c3 c4 c5 cf))
      go_ret
      exact HN.out _ E HB2.out HE.out
end Go.Proofs.YtboondbognbnnaaGreatDoor

namespace Go.Proofs.YtboondbognbnnaaGreatDoor
open Go.RowKit Go.WideMaps
theorem noun_laid {p : SB} {w w2 w3 : World} {all all' i : Int} {DV DN DS : DataW Value} {n : Nat} {σ : Names} {k : List UInt8} {sh a : List Int} {y : AV} (h : Sp p w all DV DN DS n σ) (hT : Turn p w w2) (hl : n + 1 ≤ 100000)
    (hx : BoxAll p w2 all') (ov : HoldsM w2 p.mv n DV) (on : HoldsM w2 p.mn n DN) (os : HoldsM w2 p.ms (n + 1) (DS.put (.string k) (.held (.int .i64 i)))) (o3 : HoldsM w3 p.mn (n + 1) (DN.put (.string k) (.held y.val))) (hg : w2.grownBy w3 (some p.mn))
    (hn : T.named k 97 122 = true) (hy : ARepS w3 (p.safe w3) sh a y) : Sp p w3 all' DV (DN.put (.string k) (.held y.val)) (DS.put (.string k) (.held (.int .i64 i))) (n + 1) (σ.put k (.noun sh a)) := by
  obtain ⟨s1, s2, s3⟩ := h.sv
  have hT3 : Turn p w w3 := hT.trans (Turn.of_grown hg (fun g e => by cases e; exact .inr (.inr (.inl rfl))))
  have hk : ∀ b, b < w2.heap.size → b ≠ p.mn → w3.heap[b]? = w2.heap[b]? := fun b hb h1 => hg.block b hb (fun e => h1 (Option.some.inj e))
  have mS : Maps.IsMap DS := World.ownsMap.isMap h.s
  have mN : Maps.IsMap DN := World.ownsMap.isMap h.nn
  refine ⟨hx.kept (hk _ hx.lt s2) hg.size, (ov.at (hk _ ov.lt h.vn)).mono (Nat.le_succ n), o3, os.at (hk _ os.lt (Ne.symm h.ns)), hl, h.vn, h.vs, h.ns, fun j e hj => ?_, fun j hj => ?_, fun j hj => ?_, fun j hj => ?_, fun j hj => ?_⟩
  · unfold Names.put at hj
    split at hj
    · rename_i e1
      subst e1
      cases hj
      exact ⟨Maps.has_put_same mS (isKey _) _, hn, Maps.has_put_same mN (isKey _) _, y, fun z => Maps.atKey_put_same mN (isKey _) _ z, hy⟩
    · rename_i hne
      obtain ⟨g1, g2⟩ := h.at_ j e hj
      refine ⟨(Maps.has_put_other (lit_ne hne) _).trans g1, ?_⟩
      have g3 := g2.keep hT3
      cases e with
      | verb u => exact g3
      | noun sh' a' =>
        obtain ⟨h1, h2, x, h5, h6⟩ := g3
        exact ⟨h1, (Maps.has_put_other (lit_ne hne) _).trans h2, x, fun z => (Maps.atKey_put_other (lit_ne hne) _ z).trans (h5 z), h6⟩
  · by_cases hne : j = k
    · subst hne
      exact ⟨i, fun z => Maps.atKey_put_same mS (isKey _) _ z⟩
    · rw [Maps.has_put_other (lit_ne hne)] at hj
      obtain ⟨i', hi⟩ := h.ints j hj
      exact ⟨i', fun z => (Maps.atKey_put_other (lit_ne hne) _ z).trans (hi z)⟩
  · unfold Names.put
    split
    · rfl
    · rename_i hne
      rw [Maps.has_put_other (lit_ne hne)] at hj
      exact h.hs j hj
  · obtain ⟨t, hj'⟩ := h.hv j hj
    unfold Names.put
    split
    · rename_i e1
      subst e1
      exact absurd ((h.at_ _ _ hj').2.1) (fun h2 => named_excl h2 hn)
    · exact ⟨t, hj'⟩
  · unfold Names.put
    split
    · exact ⟨sh, a, rfl⟩
    · rename_i hne
      rw [Maps.has_put_other (lit_ne hne)] at hj
      exact h.hn j hj
theorem Boxd.turn {p : SB} {w w' : World} {b : Nat} {cs : Array Value} (h : Boxd w b cs) (ht : Turn p w w') (hp : ¬ p.has b) : Boxd w' b cs := h.kept (ht.block b h.lt hp) ht.size
set_option maxRecDepth 100000 in
set_option maxHeartbeats 4000000 in
theorem setNoun_calls {p : SB} {w : World} {all : Int} {DV DN DS : DataW Value} {n : Nat} {σ : Names} {sh a : List Int} {x : AV} (h : Sp p w all DV DN DS n σ) (s : ByteArray) (hs : s.size ≤ 140737488355328) (hn : n + 1 ≤ 100000) (hr : ARepS w (p.safe w) sh a x) (hrs : ∀ v ∈ sh, Pz.inRange v = true) (hra : ∀ v ∈ a, Pz.inRange v = true) (hT : Tabs w.heap.size w) :
    Calls Tryz.prog 13 #[.pointer (some ⟨p.s, 0, none⟩), .string s, x.val] w (SetPost p n σ s.data.toList (.noun sh a) (T.named s.data.toList 97 122 = true ∧ amay sh a.length = 0) w) := by
  have hA := (Below.refl w.heap.size w).alloc (Nat.le_refl _) (.cells x.cells 26)
  have hX := Boxd.new w x.cells 26
  have HV := Lib.hid (isNoun_calls s · hs)
  have HREP := Lib.hid (fun W (hb : Below w.heap.size w W) => ((hr.rep SB.safe_lt).keep (Keeps.of_below hb (Nat.le_refl _)) : ARep W w.heap.size sh a x))
  have HM := Lib.hid (fun W (hb : Below w.heap.size w W) => amay_calls (HREP.out W hb) hr.s3 hb.size)
  have HF := Lib.hid (fun W (hb : Below w.heap.size w W) (hm : amay sh a.length = 0) => flat_calls (HREP.out W hb) hr.s3 hm hrs hra hb.size (hT.up hb hb.size))
  have HSP := Lib.hid h
  have HKEY := Lib.hid (key_mk hs)
  have HA := Lib.hid hA
  have HX := Lib.hid hX
  have HRS := Lib.hid hr
  have HN := Lib.hid (fun W (r : Int) (hb : Below w.heap.size w W) (hr : r ≠ 0) => show SetPost p n σ s.data.toList (.noun sh a) (T.named s.data.toList 97 122 = true ∧ amay sh a.length = 0) w (.returned (.int .i64 r)) W from ⟨r, rfl, Turn.of_below hb, .inr ⟨hr, all, DV, DN, DS, (h.later hb).mono (Nat.le_succ n) hn⟩⟩)
  have HLE := Lib.hid hn
  clear h hA hX hr hrs hra hT hn
  unfold AV.val at HM HF ⊢
  unfold AV.cells at HA HX HM HF ⊢
  unfold FlatPost at HF
  cases hv : T.named s.data.toList 97 122
  · rw [hv] at HN
    go_enter Tryz.func13, Tryz.ntmps13
    go_wp2_with (go_at_call 34; refine (HV.out _).mono ?_; rw [hv]; rintro e w1 ⟨rfl, rfl⟩)
    go_ret
    exact HN.out _ 1 HA.out (by decide)
  · rw [hv] at HN
    have HVT := Lib.hid hv
    by_cases hm : amay sh a.length = 0
    · rw [hm] at HM
      have HMM := Lib.hid hm
      have HF' := Lib.hid (fun W hb => HF.out W hb hm)
      clear HF hm
      go_enter Tryz.func13, Tryz.ntmps13
      go_upto_region 1 with fail
      generalize w.alloc _ = w0 at HA HX
      obtain ⟨c0, c1⟩ := HX.out.two
      go_upto_region 6 with (first
        | (go_at_call 34; refine (HV.out _).mono ?_; rw [hv]; rintro e w1 ⟨rfl, rfl⟩)
        | (go_at_call 16; refine (HM.out _ HA.out).mono ?_; rintro e w2 ⟨rfl, hb2⟩; have HB2 := Lib.hid (HA.out.trans (hb2.mono HA.out.size)); have HX2 := Lib.hid (HX.out.later hb2); clear hb2 c0 c1; obtain ⟨c0, c1⟩ := HX2.out.two)
        | (go_at_call 35; refine (HF'.out _ HB2.out).mono ?_; rintro e w3 ⟨S, rfl, hS, hb3⟩; have HB3 := Lib.hid (HB2.out.trans (hb3.mono HB2.out.size)); have HX3 := Lib.hid (HX2.out.later hb3); clear hb3 c0 c1; obtain ⟨c0, c1⟩ := HX3.out.two))
      have hsp3 := HSP.out.later HB3.out
      have HSP3 := Lib.hid hsp3
      have hnew : ∀ b, w.heap.size ≤ b → ¬ p.has b := fun b hb hp => by have := HSP.out.lt hp; omega
      have HNEW := Lib.hid hnew
      have HRM := Lib.hid (room_calls hsp3 s S hs)
      clear hsp3 hnew
      go_upto_region 7 with (go_at_call 30; refine HRM.out.mono ?_; rintro e w5 hc5; obtain ⟨r, rfl, hT5, hc5⟩ := room_ret hc5)
      rcases hc5 with ⟨rfl, rfl⟩ | ⟨rfl, all', i, hbx, hov, hon, hos⟩
      · go_wp2_with fail
        go_ret
        exact HN.out _ 4 HB3.out (by decide)
      · have hx5 := HX3.out.turn hT5 (HNEW.out _ (Nat.le_refl _))
        have hT0 : Turn p w w5 := (Turn.of_below HB3.out).trans hT5
        have hr5 : ARepS w5 (p.safe w5) sh a x := HRS.out.keep hT0.cell hT0.safe
        have HTW := Lib.hid (fun W (hb : Below w5.heap.size w5 W) => twin_calls ((hr5.rep SB.safe_lt).keep (Keeps.of_below hb (Nat.le_refl _))) hr5.s3 hr5.a3 hb.size)
        have HT5 := Lib.hid hT5
        have HT0 := Lib.hid hT0
        have HX5 := Lib.hid hx5
        have HALL := Lib.hid (And.intro hbx (And.intro hov (And.intro hon hos)))
        have hkey := HKEY.out
        have hnm : n < maxLen := by have := HLE.out; unfold maxLen; omega
        obtain ⟨q0, q1, q2, q3⟩ := hbx.four
        clear c0 c1
        obtain ⟨c0, c1⟩ := hx5.two
        have hlt0 := hx5.lt
        have hlt1 := hbx.lt
        have S0 := Lib.hid (And.intro q1 (And.intro c0 c1))
        have HBX := Lib.hid hbx
        clear hT5 hT0 hbx hov hon hos hx5 hr5
        have hne1 : w.heap.size ≠ p.mn := fun e => by have := HSP.out.nn.lt; omega
        have hne2 : p.s ≠ p.mn := HSP.out.sv.2.1
        unfold AV.val AV.cells ArrPost at HTW
        go_wp2_with fail
        go_region_held3 (fun w' => w'.cell? ⟨p.s, 1, none⟩ = some (.map (some p.mn)) ∧ w'.cell? ⟨w.heap.size, 0, none⟩ = some (.slice x.sa x.sl x.sc) ∧ w'.cell? ⟨w.heap.size, 1, none⟩ = some (.slice x.aa x.al x.ac))
          (first | (with_reducible exact S7.out) | (with_reducible exact S6.out) | (with_reducible exact S0.out) | go_keep | ((try dsimp only); (repeat' apply And.intro); (all_goals go_keep)))
          (first
            | (go_at_call 36; refine (HTW.out _ (by first | exact Below.refl _ _ | exact (Below.refl _ _).drew)).mono ?_; rintro e w6 ⟨y, rfl, hy, hb6⟩; have hb6' : Below w5.heap.size w5 w6 := (by first | exact hb6 | exact (Below.refl _ _).drew.trans hb6); have HB6 := Lib.hid hb6'; have HX6 := Lib.hid (HX5.out.later hb6'); have HBX6 := Lib.hid (HBX.out.later hb6'); have S6 := Lib.hid (And.intro HBX6.out.four.2.1 HX6.out.two); have HY := Lib.hid (show ARepS w6 (fun b => w5.heap.size ≤ b ∧ b < w6.heap.size) sh a y from hy); have hon6 : HoldsM w6 p.mn n DN := HALL.out.2.2.1.at (hb6'.block _ HALL.out.2.2.1.lt); clear hb6 hb6' hy q0 q1 q2 q3 c0 c1 hlt0 hlt1; obtain ⟨q1, c0, c1⟩ := S6.out; have hlt0 := HX6.out.lt; have hlt1 := HBX6.out.lt; simp only [AV.val, AV.cells]; obtain ⟨w7, hrun7, hown7, hgrow7⟩ := World.ownsMap.update hon6 law_string Tryz.underlying66 hnm (key := .string s) (val := .agg #[.slice y.sa y.sl y.sc, .slice y.aa y.al y.ac]) hkey rfl; have H7 := Lib.hid hown7; have G7 := Lib.hid hgrow7; have HX7 := Lib.hid (HX6.out.kept (hgrow7.block _ HX6.out.lt (fun e => hne1 (Option.some.inj e))) hgrow7.size); have HBX7 := Lib.hid (HBX6.out.kept (hgrow7.block _ HBX6.out.lt (fun e => hne2 (Option.some.inj e))) hgrow7.size); have S7 := Lib.hid (And.intro HBX7.out.four.2.1 HX7.out.two); clear hown7 hgrow7))
        all_goals
          go_wp2_with fail
          go_ret
          have G : w6.grownBy w7 (some p.mn) := G7.out
          have hT6 : Turn p w5 w6 := Turn.of_below HB6.out
          have hT7 : Turn p w6 w7 := Turn.of_grown G (fun g e => by cases e; exact .inr (.inr (.inl rfl)))
          have hTF : Turn p w w7 := HT0.out.trans (hT6.trans hT7)
          obtain ⟨hbx, hov, hon, hos⟩ := HALL.out
          have hz5 := HT0.out.size
          have hy7 : ARepS w7 (p.safe w7) sh a y := HY.out.keep (fun b o hb => hT7.cell b o ⟨hb.2, HNEW.out b (by have := hb.1; omega)⟩) (fun b hb => ⟨Nat.lt_of_lt_of_le hb.2 hT7.size, HNEW.out b (by have := hb.1; omega)⟩)
          exact ⟨0, rfl, hTF, .inl ⟨rfl, ⟨trivial, HMM.out⟩, all', DV, _, _, noun_laid HSP3.out (HT5.out.trans hT6) HLE.out HBX6.out (hov.at (HB6.out.block _ hov.lt)) (hon.at (HB6.out.block _ hon.lt)) (hos.at (HB6.out.block _ hos.lt)) H7.out G HVT.out hy7⟩⟩
    · have hE1 : (amay sh a.length != 0) = true := by simpa using hm
      generalize amay sh a.length = E at HM HN hE1 ⊢
      clear hm HF
      go_enter Tryz.func13, Tryz.ntmps13
      go_upto_region 1 with fail
      generalize w.alloc _ = w0 at HA HX
      obtain ⟨c0, c1⟩ := HX.out.two
      go_wp2_with (first
        | (go_at_call 34; refine (HV.out _).mono ?_; rw [hv]; rintro e w1 ⟨rfl, rfl⟩)
        | (go_at_call 16; refine (HM.out _ HA.out).mono ?_; rintro e w2 ⟨rfl, hb2⟩; have HB2 := Lib.hid (HA.out.trans (hb2.mono HA.out.size)); clear hb2 c0 c1))
      go_ret
      exact HN.out _ 1 HB2.out (by decide)
end Go.Proofs.YtboondbognbnnaaGreatDoor
