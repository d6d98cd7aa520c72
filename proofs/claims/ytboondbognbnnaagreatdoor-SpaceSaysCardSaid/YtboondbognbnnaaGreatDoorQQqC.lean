/- Package print: phrase, kind by kind (printed by mkph.py). Package print: phrase, kind by kind (printed by mkph2.py). Package print: sentences, definitions, ranks (printed by mkph2.py). -/
import Derived.Test.YtboondbognbnnaaGreatDoorQQqB
set_option linter.unusedVariables false
set_option linter.unusedSimpArgs false
namespace Go.Proofs.YtboondbognbnnaaGreatDoor
open Go.RowKit
section
variable {B b : Nat} {l o o2 tot : List UInt8} {w w1 : World} {ps : List PanicEntry}
theorem Dead.to (h : Dead B b l o w ps w1) (he : ∃ r, tot = o ++ r) : Puts B b l tot w (.panicked ps) w1 := by
  obtain ⟨r, rfl⟩ := he
  exact (h.more r).puts
theorem Done.to (h : Done B b l o w w1) (he : tot = o) : Puts B b l tot w (.returned (.tuple #[])) w1 := by subst he; exact h.puts
end
/-- a function that puts what is written of a term -/
def PutsAt (f : FuncId) (t : T) (out : List UInt8) : Prop := ∀ (B b p o : Nat) (x : TV) (l : List UInt8) (w : World), TAt B t p o x w → Wr B b l w → l.length ≤ 1048576 → B ≤ w.heap.size → Tabs B w → Calls Tryz.prog f #[ptr b 0, ptr p o] w (Puts B b l out w)
theorem PutsAt.at_ {f : FuncId} {u : T} {out : List UInt8} (h : PutsAt f u out) {B b q r : Nat} {y : TV} {l acc : List UInt8} {w w1 : World} (ht : TAt B u q r y w) (hB : B ≤ w.heap.size) (hT : Tabs B w) (D : Done B b l acc w w1) :
    Calls Tryz.prog f #[ptr b 0, ptr q r] w1 (Puts B b (l ++ acc) out w1) := h B b q r y (l ++ acc) w1 (ht.below D.below) D.box D.le (Nat.le_trans hB D.below.size) (hT.below D.below)
theorem Done.put {B b : Nat} {l acc : List UInt8} {w w1 : World} (D : Done B b l acc w w1) (hB : B ≤ w.heap.size) (s : ByteArray) (hs : s.size ≤ 64) :
    Calls Tryz.prog 78 #[ptr b 0, .slice (some ⟨w1.heap.size, 0, none⟩) 1 1] (w1.alloc (.cells #[.string s] 9)) (Puts B b (l ++ acc) s.data.toList w1) :=
  put1 s D.box D.le (Nat.le_trans hB D.below.size) (by omega)
abbrev fPh : FuncId := 54
abbrev fCl : FuncId := 82
abbrev fNo : FuncId := 79
abbrev fBo : FuncId := 80
abbrev fSe : FuncId := 119
abbrev fAg : FuncId := 84
def VAt (t : T) : Prop := PutsAt fPh t (Pp.rn (Pp.phrase t))
def CAt (t : T) : Prop := PutsAt fCl t (Pp.rn (Pp.cl t))
def NAt (t : T) : Prop := PutsAt fNo t (Pp.rn (Pp.noun t))
def SAt (t : T) : Prop := PutsAt fSe t (Pp.rn (Pp.sentence t))
def BAt (t : T) : Prop := PutsAt fBo t (Pp.rn (Pp.body t))
def AAt (t : T) : Prop := PutsAt fAg t (Pp.rn (Pp.phrase t))
theorem mark_size {k : Int} (h : Pp.IsMark k) : (Pp.rn (Pp.mark k)).length ≤ 64 := by
  have hk : k = 24 ∨ k = 25 ∨ k = 26 ∨ k = 27 ∨ k = 28 ∨ k = 29 ∨ k = 30 ∨ k = 31 ∨ k = 32 ∨ k = 33 ∨ k = 34 ∨ k = 35 ∨ k = 36 ∨ k = 37 ∨ k = 38 ∨ k = 40 ∨ k = 41 := by
    unfold Pp.IsMark at h; omega
  rcases hk with rfl | rfl | rfl | rfl | rfl | rfl | rfl | rfl | rfl | rfl | rfl | rfl | rfl | rfl | rfl | rfl | rfl <;> decide
theorem text_size {s : ByteArray} (h : T.isPrim s.data.toList = true ∨ T.named s.data.toList 97 122 = true ∨ T.named s.data.toList 65 90 = true) : s.size ≤ 64 := by
  have e : s.size = s.data.toList.length := (Array.length_toList).symm
  rw [e]
  rcases h with h | h | h
  · generalize s.data.toList = l at h
    simp only [T.isPrim, T.spells, List.contains_eq_mem, List.mem_cons, List.not_mem_nil, or_false, decide_eq_true_eq] at h
    rcases h with rfl | rfl | rfl | rfl | rfl | rfl | rfl | rfl | rfl | rfl | rfl | rfl | rfl | rfl | rfl | rfl | rfl | rfl | rfl | rfl | rfl | rfl | rfl | rfl | rfl | rfl | rfl | rfl | rfl | rfl | rfl | rfl | rfl | rfl | rfl | rfl | rfl | rfl | rfl | rfl | rfl | rfl | rfl <;> decide
  · obtain ⟨c, q, e, h1, _⟩ := Pp.named_parts h
    rw [e]; omega
  · obtain ⟨c, q, e, h1, _⟩ := Pp.named_parts h
    rw [e]; omega
end Go.Proofs.YtboondbognbnnaaGreatDoor

namespace Go.Proofs.YtboondbognbnnaaGreatDoor
open Go.RowKit
set_option maxRecDepth 100000 in
set_option maxHeartbeats 4000000 in
theorem ph_text {k : Int} {s : ByteArray} (hk : (k = 20 ∧ T.isPrim s.data.toList = true) ∨ (k = 21 ∧ T.named s.data.toList 65 90 = true)) : VAt (T.mk k s 0 [] [] []) := by
  intro B b p o x l w ht hW hl hB hT
  have htot : Pp.rn (Pp.phrase (T.mk k s 0 [] [] [])) = s.data.toList := by rcases hk with ⟨rfl, _⟩ | ⟨rfl, _⟩ <;> simp [Pp.p_prim, Pp.p_name, Pp.rn, Pp.Pc.bytes, Pp.txt]
  rw [htot]
  have c0 := ht.kind
  simp only [Pz.made, T.kind_mk] at c0
  have HC := Lib.hid (fun (w1 : World) (h : Below B w w1) => And.intro ((h.cell (p := ⟨p, o, none⟩) ht.lt).trans c0) trivial)
  have c1 := ht.text
  have HS := Lib.hid (text_size (by rcases hk with ⟨_, h⟩ | ⟨_, h⟩; exact .inl h; exact .inr (.inr h)))
  have D0 := Lib.hid (Done.start hW hl)
  have HB := Lib.hid hB
  have HT := Lib.hid hT
  clear ht hW hl hB hT htot
  rcases hk with ⟨rfl, _⟩ | ⟨rfl, _⟩
  all_goals
    go_enter Tryz.func54, Tryz.ntmps54
    go_wp2_with fail
    refine (D0.out.put HB.out s HS.out).mono ?_
    intro e w1 hp
    rcases hp.two with ⟨rfl, h⟩ | ⟨ps, rfl, h⟩
    rotate_left
    · exact ⟨rfl, (D0.out.dead h).to ⟨[], by simp only [List.nil_append, List.cons_append, List.append_assoc, List.append_nil]⟩⟩
    have D1 := Lib.hid (D0.out.then h)
    obtain ⟨d0, d5⟩ := HC.out _ D1.out.below
    clear hp h
    go_wp2_with fail
    exact bodyPost_end (results_none rfl _ _ _) rfl (D1.out.to (by simp only [List.nil_append, List.cons_append, List.append_assoc, List.append_nil]))
set_option maxRecDepth 100000 in
set_option maxHeartbeats 4000000 in
theorem ph_const {x0 : T} (h0 : NAt x0) : VAt (Pz.made 22 [x0]) := by
  intro B b p o x l w ht hW hl hB hT
  have htot : Pp.rn (Pp.phrase (Pz.made 22 [x0])) = Pp.rn (Pp.noun x0) ++ ([34, 95]) := by rw [Pp.p_const, Pp.rn_append]; rfl
  rw [htot]
  have c0 := ht.kind
  obtain ⟨q, r, cap, c5, hcap, hkid⟩ := ht.kids (u := x0) (l := []) rfl
  obtain ⟨y0, hy0⟩ := hkid 0 x0 rfl
  rw [Nat.zero_mul, Nat.add_zero] at hy0
  simp only [Pz.made, T.kind_mk, List.length_cons, List.length_nil, Nat.zero_add, Nat.reduceAdd] at c0 c5 hcap
  have HC := Lib.hid (fun (w1 : World) (h : Below B w w1) => And.intro ((h.cell (p := ⟨p, o, none⟩) ht.lt).trans c0) ((h.cell (p := ⟨p, o + 5, none⟩) ht.lt).trans c5))
  have D0 := Lib.hid (Done.start hW hl)
  have HB := Lib.hid hB
  have HT := Lib.hid hT
  have HY0 := Lib.hid hy0
  clear ht hW hl hB hT htot hkid hy0
  go_enter Tryz.func54, Tryz.ntmps54
  go_wp2_with fail
  refine (h0.at_ HY0.out HB.out HT.out D0.out).mono ?_
  intro e w1 hp
  rcases hp.two with ⟨rfl, h⟩ | ⟨ps, rfl, h⟩
  rotate_left
  · exact ⟨rfl, (D0.out.dead h).to ⟨[34, 95], by simp only [List.nil_append, List.cons_append, List.append_assoc, List.append_nil]⟩⟩
  have D1 := Lib.hid (D0.out.then h)
  obtain ⟨d0, d5⟩ := HC.out _ D1.out.below
  clear hp h
  go_wp2_with fail
  refine (D1.out.put HB.out ⟨#[34, 95]⟩ (by decide)).mono ?_
  intro e w2 hp
  rcases hp.two with ⟨rfl, h⟩ | ⟨ps, rfl, h⟩
  rotate_left
  · exact ⟨rfl, (D1.out.dead h).to ⟨[], by simp only [List.nil_append, List.cons_append, List.append_assoc, List.append_nil]⟩⟩
  have D2 := Lib.hid (D1.out.then h)
  obtain ⟨d0, d5⟩ := HC.out _ D2.out.below
  clear hp h
  go_wp2_with fail
  exact bodyPost_end (results_none rfl _ _ _) rfl (D2.out.to (by simp only [List.nil_append, List.cons_append, List.append_assoc, List.append_nil]))
set_option maxRecDepth 100000 in
set_option maxHeartbeats 4000000 in
theorem ph_adv {k : Int} {u : T} (hk : k = 24 ∨ k = 25 ∨ k = 26 ∨ k = 27) (h0 : VAt u) : VAt (Pz.made k [u]) := by
  intro B b p o x l w ht hW hl hB hT
  have htot : Pp.rn (Pp.phrase (Pz.made k [u])) = Pp.rn (Pp.phrase u) ++ (Pp.rn (Pp.mark k)) := by rw [Pp.p_adv hk, Pp.rn_append]
  rw [htot]
  have c0 := ht.kind
  obtain ⟨q, r, cap, c5, hcap, hkid⟩ := ht.kids (u := u) (l := []) rfl
  obtain ⟨y0, hy0⟩ := hkid 0 u rfl
  rw [Nat.zero_mul, Nat.add_zero] at hy0
  simp only [Pz.made, T.kind_mk, List.length_cons, List.length_nil, Nat.zero_add, Nat.reduceAdd] at c0 c5 hcap
  have HC := Lib.hid (fun (w1 : World) (h : Below B w w1) => And.intro ((h.cell (p := ⟨p, o, none⟩) ht.lt).trans c0) ((h.cell (p := ⟨p, o + 5, none⟩) ht.lt).trans c5))
  have hM : Pp.IsMark k := by unfold Pp.IsMark; omega
  have HM := Lib.hid (fun w => mark_calls hM w)
  have HMS := Lib.hid (mark_size hM)
  have D0 := Lib.hid (Done.start hW hl)
  have HB := Lib.hid hB
  have HT := Lib.hid hT
  have HY0 := Lib.hid hy0
  clear ht hW hl hB hT htot hkid hy0
  clear hM
  generalize Pp.rn (Pp.mark k) = mk at HM HMS ⊢
  rcases hk with rfl | rfl | rfl | rfl
  all_goals
    go_enter Tryz.func54, Tryz.ntmps54
    go_wp2_with fail
    refine (h0.at_ HY0.out HB.out HT.out D0.out).mono ?_
    intro e w1 hp
    rcases hp.two with ⟨rfl, h⟩ | ⟨ps, rfl, h⟩
    rotate_left
    · exact ⟨rfl, (D0.out.dead h).to ⟨mk, by simp only [List.nil_append, List.cons_append, List.append_assoc, List.append_nil]⟩⟩
    have D1 := Lib.hid (D0.out.then h)
    obtain ⟨d0, d5⟩ := HC.out _ D1.out.below
    clear hp h
    go_wp2_with (first | (go_at_call 81; refine (HM.out _).mono ?_; rintro e w' ⟨rfl, rfl⟩))
    refine (D1.out.put HB.out ⟨mk.toArray⟩ HMS.out).mono ?_
    intro e w2 hp
    rcases hp.two with ⟨rfl, h⟩ | ⟨ps, rfl, h⟩
    rotate_left
    · exact ⟨rfl, (D1.out.dead h).to ⟨[], by simp only [List.nil_append, List.cons_append, List.append_assoc, List.append_nil]⟩⟩
    have D2 := Lib.hid (D1.out.then h)
    obtain ⟨d0, d5⟩ := HC.out _ D2.out.below
    clear hp h
    go_wp2_with fail
    exact bodyPost_end (results_none rfl _ _ _) rfl (D2.out.to (by simp only [List.nil_append, List.cons_append, List.append_assoc, List.append_nil]))
set_option maxRecDepth 100000 in
set_option maxHeartbeats 4000000 in
theorem ph_conj {k : Int} {u v : T} (hk : 28 ≤ k ∧ k ≤ 38) (h0 : VAt u) (h1 : CAt v) : VAt (Pz.made k [u, v]) := by
  intro B b p o x l w ht hW hl hB hT
  have htot : Pp.rn (Pp.phrase (Pz.made k [u, v])) = Pp.rn (Pp.phrase u) ++ (Pp.rn (Pp.mark k) ++ (Pp.rn (Pp.cl v))) := by rw [Pp.p_conj hk, Pp.rn_append, Pp.rn_append, List.append_assoc]
  rw [htot]
  have c0 := ht.kind
  obtain ⟨q, r, cap, c5, hcap, hkid⟩ := ht.kids (u := u) (l := [v]) rfl
  obtain ⟨y0, hy0⟩ := hkid 0 u rfl
  obtain ⟨y1, hy1⟩ := hkid 1 v rfl
  rw [Nat.zero_mul, Nat.add_zero] at hy0
  simp only [Pz.made, T.kind_mk, List.length_cons, List.length_nil, Nat.zero_add, Nat.reduceAdd] at c0 c5 hcap
  have HC := Lib.hid (fun (w1 : World) (h : Below B w w1) => And.intro ((h.cell (p := ⟨p, o, none⟩) ht.lt).trans c0) ((h.cell (p := ⟨p, o + 5, none⟩) ht.lt).trans c5))
  have hM : Pp.IsMark k := by unfold Pp.IsMark; omega
  have HM := Lib.hid (fun w => mark_calls hM w)
  have HMS := Lib.hid (mark_size hM)
  have D0 := Lib.hid (Done.start hW hl)
  have HB := Lib.hid hB
  have HT := Lib.hid hT
  have HY0 := Lib.hid hy0
  have HY1 := Lib.hid hy1
  clear ht hW hl hB hT htot hkid hy0 hy1
  clear hM
  generalize Pp.rn (Pp.mark k) = mk at HM HMS ⊢
  have e20 : (k == 20) = false := by simp; omega
  have e21 : (k == 21) = false := by simp; omega
  have e22 : (k == 22) = false := by simp; omega
  have e23 : (k == 23) = false := by simp; omega
  have e24 : (k == 24) = false := by simp; omega
  have e25 : (k == 25) = false := by simp; omega
  have e26 : (k == 26) = false := by simp; omega
  have e27 : (k == 27) = false := by simp; omega
  have e39 : (k == 39) = false := by simp; omega
  have e40 : (k == 40) = false := by simp; omega
  have e41 : (k == 41) = false := by simp; omega
  have e42 : (k == 42) = false := by simp; omega
  have e43 : (k == 43) = false := by simp; omega
  have e44 : (k == 44) = false := by simp; omega
  have e45 : (k == 45) = false := by simp; omega
  have e46 : (k == 46) = false := by simp; omega
  go_enter Tryz.func54, Tryz.ntmps54
  go_wp2_with fail
  refine (h0.at_ HY0.out HB.out HT.out D0.out).mono ?_
  intro e w1 hp
  rcases hp.two with ⟨rfl, h⟩ | ⟨ps, rfl, h⟩
  rotate_left
  · exact ⟨rfl, (D0.out.dead h).to ⟨mk ++ (Pp.rn (Pp.cl v)), by simp only [List.nil_append, List.cons_append, List.append_assoc, List.append_nil]⟩⟩
  have D1 := Lib.hid (D0.out.then h)
  obtain ⟨d0, d5⟩ := HC.out _ D1.out.below
  clear hp h
  go_wp2_with (first | (go_at_call 81; refine (HM.out _).mono ?_; rintro e w' ⟨rfl, rfl⟩))
  refine (D1.out.put HB.out ⟨mk.toArray⟩ HMS.out).mono ?_
  intro e w2 hp
  rcases hp.two with ⟨rfl, h⟩ | ⟨ps, rfl, h⟩
  rotate_left
  · exact ⟨rfl, (D1.out.dead h).to ⟨Pp.rn (Pp.cl v), by simp only [List.nil_append, List.cons_append, List.append_assoc, List.append_nil]⟩⟩
  have D2 := Lib.hid (D1.out.then h)
  obtain ⟨d0, d5⟩ := HC.out _ D2.out.below
  clear hp h
  go_wp2_with fail
  refine (h1.at_ HY1.out HB.out HT.out D2.out).mono ?_
  intro e w3 hp
  rcases hp.two with ⟨rfl, h⟩ | ⟨ps, rfl, h⟩
  rotate_left
  · exact ⟨rfl, (D2.out.dead h).to ⟨[], by simp only [List.nil_append, List.cons_append, List.append_assoc, List.append_nil]⟩⟩
  have D3 := Lib.hid (D2.out.then h)
  obtain ⟨d0, d5⟩ := HC.out _ D3.out.below
  clear hp h
  go_wp2_with fail
  exact bodyPost_end (results_none rfl _ _ _) rfl (D3.out.to (by simp only [List.nil_append, List.cons_append, List.append_assoc, List.append_nil]))
set_option maxRecDepth 100000 in
set_option maxHeartbeats 4000000 in
theorem ph_bondL {u v : T} (h0 : NAt u) (h1 : CAt v) : VAt (Pz.made 39 [u, v]) := by
  intro B b p o x l w ht hW hl hB hT
  have htot : Pp.rn (Pp.phrase (Pz.made 39 [u, v])) = Pp.rn (Pp.noun u) ++ ([38] ++ (Pp.rn (Pp.cl v))) := by rw [Pp.p_bondL, Pp.rn_append]; rfl
  rw [htot]
  have c0 := ht.kind
  obtain ⟨q, r, cap, c5, hcap, hkid⟩ := ht.kids (u := u) (l := [v]) rfl
  obtain ⟨y0, hy0⟩ := hkid 0 u rfl
  obtain ⟨y1, hy1⟩ := hkid 1 v rfl
  rw [Nat.zero_mul, Nat.add_zero] at hy0
  simp only [Pz.made, T.kind_mk, List.length_cons, List.length_nil, Nat.zero_add, Nat.reduceAdd] at c0 c5 hcap
  have HC := Lib.hid (fun (w1 : World) (h : Below B w w1) => And.intro ((h.cell (p := ⟨p, o, none⟩) ht.lt).trans c0) ((h.cell (p := ⟨p, o + 5, none⟩) ht.lt).trans c5))
  have D0 := Lib.hid (Done.start hW hl)
  have HB := Lib.hid hB
  have HT := Lib.hid hT
  have HY0 := Lib.hid hy0
  have HY1 := Lib.hid hy1
  clear ht hW hl hB hT htot hkid hy0 hy1
  go_enter Tryz.func54, Tryz.ntmps54
  go_wp2_with fail
  refine (h0.at_ HY0.out HB.out HT.out D0.out).mono ?_
  intro e w1 hp
  rcases hp.two with ⟨rfl, h⟩ | ⟨ps, rfl, h⟩
  rotate_left
  · exact ⟨rfl, (D0.out.dead h).to ⟨[38] ++ (Pp.rn (Pp.cl v)), by simp only [List.nil_append, List.cons_append, List.append_assoc, List.append_nil]⟩⟩
  have D1 := Lib.hid (D0.out.then h)
  obtain ⟨d0, d5⟩ := HC.out _ D1.out.below
  clear hp h
  go_wp2_with fail
  refine (D1.out.put HB.out ⟨#[38]⟩ (by decide)).mono ?_
  intro e w2 hp
  rcases hp.two with ⟨rfl, h⟩ | ⟨ps, rfl, h⟩
  rotate_left
  · exact ⟨rfl, (D1.out.dead h).to ⟨Pp.rn (Pp.cl v), by simp only [List.nil_append, List.cons_append, List.append_assoc, List.append_nil]⟩⟩
  have D2 := Lib.hid (D1.out.then h)
  obtain ⟨d0, d5⟩ := HC.out _ D2.out.below
  clear hp h
  go_wp2_with fail
  refine (h1.at_ HY1.out HB.out HT.out D2.out).mono ?_
  intro e w3 hp
  rcases hp.two with ⟨rfl, h⟩ | ⟨ps, rfl, h⟩
  rotate_left
  · exact ⟨rfl, (D2.out.dead h).to ⟨[], by simp only [List.nil_append, List.cons_append, List.append_assoc, List.append_nil]⟩⟩
  have D3 := Lib.hid (D2.out.then h)
  obtain ⟨d0, d5⟩ := HC.out _ D3.out.below
  clear hp h
  go_wp2_with fail
  exact bodyPost_end (results_none rfl _ _ _) rfl (D3.out.to (by simp only [List.nil_append, List.cons_append, List.append_assoc, List.append_nil]))
set_option maxRecDepth 100000 in
set_option maxHeartbeats 4000000 in
theorem ph_bondR {k : Int} {u v : T} (hk : k = 40 ∨ k = 41) (h0 : VAt u) (h1 : NAt v) : VAt (Pz.made k [u, v]) := by
  intro B b p o x l w ht hW hl hB hT
  have htot : Pp.rn (Pp.phrase (Pz.made k [u, v])) = Pp.rn (Pp.phrase u) ++ (Pp.rn (Pp.mark k) ++ (Pp.rn (Pp.noun v))) := by rw [Pp.p_bondR hk, Pp.rn_append, Pp.rn_append, List.append_assoc]
  rw [htot]
  have c0 := ht.kind
  obtain ⟨q, r, cap, c5, hcap, hkid⟩ := ht.kids (u := u) (l := [v]) rfl
  obtain ⟨y0, hy0⟩ := hkid 0 u rfl
  obtain ⟨y1, hy1⟩ := hkid 1 v rfl
  rw [Nat.zero_mul, Nat.add_zero] at hy0
  simp only [Pz.made, T.kind_mk, List.length_cons, List.length_nil, Nat.zero_add, Nat.reduceAdd] at c0 c5 hcap
  have HC := Lib.hid (fun (w1 : World) (h : Below B w w1) => And.intro ((h.cell (p := ⟨p, o, none⟩) ht.lt).trans c0) ((h.cell (p := ⟨p, o + 5, none⟩) ht.lt).trans c5))
  have hM : Pp.IsMark k := by unfold Pp.IsMark; omega
  have HM := Lib.hid (fun w => mark_calls hM w)
  have HMS := Lib.hid (mark_size hM)
  have D0 := Lib.hid (Done.start hW hl)
  have HB := Lib.hid hB
  have HT := Lib.hid hT
  have HY0 := Lib.hid hy0
  have HY1 := Lib.hid hy1
  clear ht hW hl hB hT htot hkid hy0 hy1
  clear hM
  generalize Pp.rn (Pp.mark k) = mk at HM HMS ⊢
  rcases hk with rfl | rfl
  all_goals
    go_enter Tryz.func54, Tryz.ntmps54
    go_wp2_with fail
    refine (h0.at_ HY0.out HB.out HT.out D0.out).mono ?_
    intro e w1 hp
    rcases hp.two with ⟨rfl, h⟩ | ⟨ps, rfl, h⟩
    rotate_left
    · exact ⟨rfl, (D0.out.dead h).to ⟨mk ++ (Pp.rn (Pp.noun v)), by simp only [List.nil_append, List.cons_append, List.append_assoc, List.append_nil]⟩⟩
    have D1 := Lib.hid (D0.out.then h)
    obtain ⟨d0, d5⟩ := HC.out _ D1.out.below
    clear hp h
    go_wp2_with (first | (go_at_call 81; refine (HM.out _).mono ?_; rintro e w' ⟨rfl, rfl⟩))
    refine (D1.out.put HB.out ⟨mk.toArray⟩ HMS.out).mono ?_
    intro e w2 hp
    rcases hp.two with ⟨rfl, h⟩ | ⟨ps, rfl, h⟩
    rotate_left
    · exact ⟨rfl, (D1.out.dead h).to ⟨Pp.rn (Pp.noun v), by simp only [List.nil_append, List.cons_append, List.append_assoc, List.append_nil]⟩⟩
    have D2 := Lib.hid (D1.out.then h)
    obtain ⟨d0, d5⟩ := HC.out _ D2.out.below
    clear hp h
    go_wp2_with fail
    refine (h1.at_ HY1.out HB.out HT.out D2.out).mono ?_
    intro e w3 hp
    rcases hp.two with ⟨rfl, h⟩ | ⟨ps, rfl, h⟩
    rotate_left
    · exact ⟨rfl, (D2.out.dead h).to ⟨[], by simp only [List.nil_append, List.cons_append, List.append_assoc, List.append_nil]⟩⟩
    have D3 := Lib.hid (D2.out.then h)
    obtain ⟨d0, d5⟩ := HC.out _ D3.out.below
    clear hp h
    go_wp2_with fail
    exact bodyPost_end (results_none rfl _ _ _) rfl (D3.out.to (by simp only [List.nil_append, List.cons_append, List.append_assoc, List.append_nil]))
end Go.Proofs.YtboondbognbnnaaGreatDoor

namespace Go.Proofs.YtboondbognbnnaaGreatDoor
open Go.RowKit
theorem Done.put2 {B b : Nat} {l acc : List UInt8} {w w1 : World} (D : Done B b l acc w w1) (hB : B ≤ w.heap.size) (s t : ByteArray) (hs : s.size ≤ 64) (ht : t.size ≤ 64) :
    Calls Tryz.prog 78 #[ptr b 0, .slice (some ⟨w1.heap.size, 0, none⟩) 2 2] (w1.alloc (.cells #[.string s, .string t] 9)) (Puts B b (l ++ acc) (s.data.toList ++ t.data.toList) w1) :=
  Go.Proofs.YtboondbognbnnaaGreatDoor.put2 s t D.box D.le (Nat.le_trans hB D.below.size) (by omega) (by omega)
set_option maxRecDepth 100000 in
set_option maxHeartbeats 4000000 in
theorem se_say {x0 : T} (h0 : NAt x0) : SAt (Pz.made 10 [x0]) := by
  intro B b p o x l w ht hW hl hB hT
  have htot : Pp.rn (Pp.sentence (Pz.made 10 [x0])) = Pp.rn (Pp.noun x0) := by rw [Pp.s_say]
  rw [htot]
  have c0 := ht.kind
  obtain ⟨q, r, cap, c5, hcap, hkid⟩ := ht.kids (u := x0) (l := []) rfl
  obtain ⟨y0, hy0⟩ := hkid 0 x0 rfl
  rw [Nat.zero_mul, Nat.add_zero] at hy0
  simp only [Pz.made, T.kind_mk, List.length_cons, List.length_nil, Nat.zero_add, Nat.reduceAdd] at c0 c5 hcap
  have HC := Lib.hid (fun (w1 : World) (h : Below B w w1) => And.intro ((h.cell (p := ⟨p, o, none⟩) ht.lt).trans c0) ((h.cell (p := ⟨p, o + 5, none⟩) ht.lt).trans c5))
  have D0 := Lib.hid (Done.start hW hl)
  have HB := Lib.hid hB
  have HT := Lib.hid hT
  have HY0 := Lib.hid hy0
  clear ht hW hl hB hT htot hkid hy0
  go_enter Tryz.func119, Tryz.ntmps119
  go_wp2_with fail
  refine (h0.at_ HY0.out HB.out HT.out D0.out).mono ?_
  intro e w1 hp
  rcases hp.two with ⟨rfl, h⟩ | ⟨ps, rfl, h⟩
  rotate_left
  · exact ⟨rfl, (D0.out.dead h).to ⟨[], by simp only [List.nil_append, List.cons_append, List.append_assoc, List.append_nil]⟩⟩
  have D1 := Lib.hid (D0.out.then h)
  obtain ⟨d0, d5⟩ := HC.out _ D1.out.below
  clear hp h
  go_wp2_with fail
  exact bodyPost_end (results_none rfl _ _ _) rfl (D1.out.to (by simp only [List.nil_append, List.cons_append, List.append_assoc, List.append_nil]))
set_option maxRecDepth 100000 in
set_option maxHeartbeats 4000000 in
theorem se_set {s : ByteArray} {x0 : T} (hs : T.named s.data.toList 97 122 = true) (h0 : NAt x0) : SAt (T.mk 11 s 0 [] [] [x0]) := by
  intro B b p o x l w ht hW hl hB hT
  have htot : Pp.rn (Pp.sentence (T.mk 11 s 0 [] [] [x0])) = (s.data.toList ++ [32, 61, 46, 32]) ++ (Pp.rn (Pp.noun x0)) := by rw [Pp.s_set]; simp [Pp.rn, Pp.Pc.bytes, Pp.txt]
  rw [htot]
  have c0 := ht.kind
  obtain ⟨q, r, cap, c5, hcap, hkid⟩ := ht.kids (u := x0) (l := []) rfl
  obtain ⟨y0, hy0⟩ := hkid 0 x0 rfl
  rw [Nat.zero_mul, Nat.add_zero] at hy0
  simp only [Pz.made, T.kind_mk, List.length_cons, List.length_nil, Nat.zero_add, Nat.reduceAdd] at c0 c5 hcap
  have HC := Lib.hid (fun (w1 : World) (h : Below B w w1) => And.intro ((h.cell (p := ⟨p, o, none⟩) ht.lt).trans c0) ((h.cell (p := ⟨p, o + 5, none⟩) ht.lt).trans c5))
  have c1 := ht.text
  have HS := Lib.hid (text_size (.inr (.inl hs)))
  have D0 := Lib.hid (Done.start hW hl)
  have HB := Lib.hid hB
  have HT := Lib.hid hT
  have HY0 := Lib.hid hy0
  clear ht hW hl hB hT htot hkid hy0
  go_enter Tryz.func119, Tryz.ntmps119
  go_wp2_with fail
  refine (D0.out.put2 HB.out s ⟨#[32, 61, 46, 32]⟩ HS.out (by decide)).mono ?_
  intro e w1 hp
  rcases hp.two with ⟨rfl, h⟩ | ⟨ps, rfl, h⟩
  rotate_left
  · exact ⟨rfl, (D0.out.dead h).to ⟨Pp.rn (Pp.noun x0), by simp only [List.nil_append, List.cons_append, List.append_assoc, List.append_nil]⟩⟩
  have D1 := Lib.hid (D0.out.then h)
  obtain ⟨d0, d5⟩ := HC.out _ D1.out.below
  clear hp h
  go_wp2_with fail
  refine (h0.at_ HY0.out HB.out HT.out D1.out).mono ?_
  intro e w2 hp
  rcases hp.two with ⟨rfl, h⟩ | ⟨ps, rfl, h⟩
  rotate_left
  · exact ⟨rfl, (D1.out.dead h).to ⟨[], by simp only [List.nil_append, List.cons_append, List.append_assoc, List.append_nil]⟩⟩
  have D2 := Lib.hid (D1.out.then h)
  obtain ⟨d0, d5⟩ := HC.out _ D2.out.below
  clear hp h
  go_wp2_with fail
  exact bodyPost_end (results_none rfl _ _ _) rfl (D2.out.to (by simp only [List.nil_append, List.cons_append, List.append_assoc, List.append_nil]))
set_option maxRecDepth 100000 in
set_option maxHeartbeats 4000000 in
theorem se_cond {x0 x1 x2 : T} (h0 : NAt x0) (h1 : BAt x1) (h2 : BAt x2) : SAt (Pz.made 12 [x0, x1, x2]) := by
  intro B b p o x l w ht hW hl hB hT
  have htot : Pp.rn (Pp.sentence (Pz.made 12 [x0, x1, x2])) = [105, 102, 46, 32] ++ (Pp.rn (Pp.noun x0) ++ ([32, 100, 111, 46, 32] ++ (Pp.rn (Pp.body x1) ++ ([101, 108, 115, 101, 46, 32] ++ (Pp.rn (Pp.body x2) ++ ([101, 110, 100, 46])))))) := by rw [Pp.s_cond]; simp [Pp.rn, Pp.Pc.bytes, Pp.rn_append]
  rw [htot]
  have c0 := ht.kind
  obtain ⟨q, r, cap, c5, hcap, hkid⟩ := ht.kids (u := x0) (l := [x1, x2]) rfl
  obtain ⟨y0, hy0⟩ := hkid 0 x0 rfl
  obtain ⟨y1, hy1⟩ := hkid 1 x1 rfl
  obtain ⟨y2, hy2⟩ := hkid 2 x2 rfl
  rw [Nat.zero_mul, Nat.add_zero] at hy0
  simp only [Pz.made, T.kind_mk, List.length_cons, List.length_nil, Nat.zero_add, Nat.reduceAdd] at c0 c5 hcap
  have HC := Lib.hid (fun (w1 : World) (h : Below B w w1) => And.intro ((h.cell (p := ⟨p, o, none⟩) ht.lt).trans c0) ((h.cell (p := ⟨p, o + 5, none⟩) ht.lt).trans c5))
  have D0 := Lib.hid (Done.start hW hl)
  have HB := Lib.hid hB
  have HT := Lib.hid hT
  have HY0 := Lib.hid hy0
  have HY1 := Lib.hid hy1
  have HY2 := Lib.hid hy2
  clear ht hW hl hB hT htot hkid hy0 hy1 hy2
  go_enter Tryz.func119, Tryz.ntmps119
  go_wp2_with fail
  refine (D0.out.put HB.out ⟨#[105, 102, 46, 32]⟩ (by decide)).mono ?_
  intro e w1 hp
  rcases hp.two with ⟨rfl, h⟩ | ⟨ps, rfl, h⟩
  rotate_left
  · exact ⟨rfl, (D0.out.dead h).to ⟨Pp.rn (Pp.noun x0) ++ ([32, 100, 111, 46, 32] ++ (Pp.rn (Pp.body x1) ++ ([101, 108, 115, 101, 46, 32] ++ (Pp.rn (Pp.body x2) ++ ([101, 110, 100, 46]))))), by simp only [List.nil_append, List.cons_append, List.append_assoc, List.append_nil]⟩⟩
  have D1 := Lib.hid (D0.out.then h)
  obtain ⟨d0, d5⟩ := HC.out _ D1.out.below
  clear hp h
  go_wp2_with fail
  refine (h0.at_ HY0.out HB.out HT.out D1.out).mono ?_
  intro e w2 hp
  rcases hp.two with ⟨rfl, h⟩ | ⟨ps, rfl, h⟩
  rotate_left
  · exact ⟨rfl, (D1.out.dead h).to ⟨[32, 100, 111, 46, 32] ++ (Pp.rn (Pp.body x1) ++ ([101, 108, 115, 101, 46, 32] ++ (Pp.rn (Pp.body x2) ++ ([101, 110, 100, 46])))), by simp only [List.nil_append, List.cons_append, List.append_assoc, List.append_nil]⟩⟩
  have D2 := Lib.hid (D1.out.then h)
  obtain ⟨d0, d5⟩ := HC.out _ D2.out.below
  clear hp h
  go_wp2_with fail
  refine (D2.out.put HB.out ⟨#[32, 100, 111, 46, 32]⟩ (by decide)).mono ?_
  intro e w3 hp
  rcases hp.two with ⟨rfl, h⟩ | ⟨ps, rfl, h⟩
  rotate_left
  · exact ⟨rfl, (D2.out.dead h).to ⟨Pp.rn (Pp.body x1) ++ ([101, 108, 115, 101, 46, 32] ++ (Pp.rn (Pp.body x2) ++ ([101, 110, 100, 46]))), by simp only [List.nil_append, List.cons_append, List.append_assoc, List.append_nil]⟩⟩
  have D3 := Lib.hid (D2.out.then h)
  obtain ⟨d0, d5⟩ := HC.out _ D3.out.below
  clear hp h
  go_wp2_with fail
  refine (h1.at_ HY1.out HB.out HT.out D3.out).mono ?_
  intro e w4 hp
  rcases hp.two with ⟨rfl, h⟩ | ⟨ps, rfl, h⟩
  rotate_left
  · exact ⟨rfl, (D3.out.dead h).to ⟨[101, 108, 115, 101, 46, 32] ++ (Pp.rn (Pp.body x2) ++ ([101, 110, 100, 46])), by simp only [List.nil_append, List.cons_append, List.append_assoc, List.append_nil]⟩⟩
  have D4 := Lib.hid (D3.out.then h)
  obtain ⟨d0, d5⟩ := HC.out _ D4.out.below
  clear hp h
  go_wp2_with fail
  refine (D4.out.put HB.out ⟨#[101, 108, 115, 101, 46, 32]⟩ (by decide)).mono ?_
  intro e w5 hp
  rcases hp.two with ⟨rfl, h⟩ | ⟨ps, rfl, h⟩
  rotate_left
  · exact ⟨rfl, (D4.out.dead h).to ⟨Pp.rn (Pp.body x2) ++ ([101, 110, 100, 46]), by simp only [List.nil_append, List.cons_append, List.append_assoc, List.append_nil]⟩⟩
  have D5 := Lib.hid (D4.out.then h)
  obtain ⟨d0, d5⟩ := HC.out _ D5.out.below
  clear hp h
  go_wp2_with fail
  refine (h2.at_ HY2.out HB.out HT.out D5.out).mono ?_
  intro e w6 hp
  rcases hp.two with ⟨rfl, h⟩ | ⟨ps, rfl, h⟩
  rotate_left
  · exact ⟨rfl, (D5.out.dead h).to ⟨[101, 110, 100, 46], by simp only [List.nil_append, List.cons_append, List.append_assoc, List.append_nil]⟩⟩
  have D6 := Lib.hid (D5.out.then h)
  obtain ⟨d0, d5⟩ := HC.out _ D6.out.below
  clear hp h
  go_wp2_with fail
  refine (D6.out.put HB.out ⟨#[101, 110, 100, 46]⟩ (by decide)).mono ?_
  intro e w7 hp
  rcases hp.two with ⟨rfl, h⟩ | ⟨ps, rfl, h⟩
  rotate_left
  · exact ⟨rfl, (D6.out.dead h).to ⟨[], by simp only [List.nil_append, List.cons_append, List.append_assoc, List.append_nil]⟩⟩
  have D7 := Lib.hid (D6.out.then h)
  obtain ⟨d0, d5⟩ := HC.out _ D7.out.below
  clear hp h
  go_wp2_with fail
  exact bodyPost_end (results_none rfl _ _ _) rfl (D7.out.to (by simp only [List.nil_append, List.cons_append, List.append_assoc, List.append_nil]))
set_option maxRecDepth 100000 in
set_option maxHeartbeats 4000000 in
theorem se_loop {x0 x1 : T} (h0 : NAt x0) (h1 : BAt x1) : SAt (Pz.made 13 [x0, x1]) := by
  intro B b p o x l w ht hW hl hB hT
  have htot : Pp.rn (Pp.sentence (Pz.made 13 [x0, x1])) = [119, 104, 105, 108, 101, 46, 32] ++ (Pp.rn (Pp.noun x0) ++ ([32, 100, 111, 46, 32] ++ (Pp.rn (Pp.body x1) ++ ([101, 110, 100, 46])))) := by rw [Pp.s_loop]; simp [Pp.rn, Pp.Pc.bytes, Pp.rn_append]
  rw [htot]
  have c0 := ht.kind
  obtain ⟨q, r, cap, c5, hcap, hkid⟩ := ht.kids (u := x0) (l := [x1]) rfl
  obtain ⟨y0, hy0⟩ := hkid 0 x0 rfl
  obtain ⟨y1, hy1⟩ := hkid 1 x1 rfl
  rw [Nat.zero_mul, Nat.add_zero] at hy0
  simp only [Pz.made, T.kind_mk, List.length_cons, List.length_nil, Nat.zero_add, Nat.reduceAdd] at c0 c5 hcap
  have HC := Lib.hid (fun (w1 : World) (h : Below B w w1) => And.intro ((h.cell (p := ⟨p, o, none⟩) ht.lt).trans c0) ((h.cell (p := ⟨p, o + 5, none⟩) ht.lt).trans c5))
  have D0 := Lib.hid (Done.start hW hl)
  have HB := Lib.hid hB
  have HT := Lib.hid hT
  have HY0 := Lib.hid hy0
  have HY1 := Lib.hid hy1
  clear ht hW hl hB hT htot hkid hy0 hy1
  go_enter Tryz.func119, Tryz.ntmps119
  go_wp2_with fail
  refine (D0.out.put HB.out ⟨#[119, 104, 105, 108, 101, 46, 32]⟩ (by decide)).mono ?_
  intro e w1 hp
  rcases hp.two with ⟨rfl, h⟩ | ⟨ps, rfl, h⟩
  rotate_left
  · exact ⟨rfl, (D0.out.dead h).to ⟨Pp.rn (Pp.noun x0) ++ ([32, 100, 111, 46, 32] ++ (Pp.rn (Pp.body x1) ++ ([101, 110, 100, 46]))), by simp only [List.nil_append, List.cons_append, List.append_assoc, List.append_nil]⟩⟩
  have D1 := Lib.hid (D0.out.then h)
  obtain ⟨d0, d5⟩ := HC.out _ D1.out.below
  clear hp h
  go_wp2_with fail
  refine (h0.at_ HY0.out HB.out HT.out D1.out).mono ?_
  intro e w2 hp
  rcases hp.two with ⟨rfl, h⟩ | ⟨ps, rfl, h⟩
  rotate_left
  · exact ⟨rfl, (D1.out.dead h).to ⟨[32, 100, 111, 46, 32] ++ (Pp.rn (Pp.body x1) ++ ([101, 110, 100, 46])), by simp only [List.nil_append, List.cons_append, List.append_assoc, List.append_nil]⟩⟩
  have D2 := Lib.hid (D1.out.then h)
  obtain ⟨d0, d5⟩ := HC.out _ D2.out.below
  clear hp h
  go_wp2_with fail
  refine (D2.out.put HB.out ⟨#[32, 100, 111, 46, 32]⟩ (by decide)).mono ?_
  intro e w3 hp
  rcases hp.two with ⟨rfl, h⟩ | ⟨ps, rfl, h⟩
  rotate_left
  · exact ⟨rfl, (D2.out.dead h).to ⟨Pp.rn (Pp.body x1) ++ ([101, 110, 100, 46]), by simp only [List.nil_append, List.cons_append, List.append_assoc, List.append_nil]⟩⟩
  have D3 := Lib.hid (D2.out.then h)
  obtain ⟨d0, d5⟩ := HC.out _ D3.out.below
  clear hp h
  go_wp2_with fail
  refine (h1.at_ HY1.out HB.out HT.out D3.out).mono ?_
  intro e w4 hp
  rcases hp.two with ⟨rfl, h⟩ | ⟨ps, rfl, h⟩
  rotate_left
  · exact ⟨rfl, (D3.out.dead h).to ⟨[101, 110, 100, 46], by simp only [List.nil_append, List.cons_append, List.append_assoc, List.append_nil]⟩⟩
  have D4 := Lib.hid (D3.out.then h)
  obtain ⟨d0, d5⟩ := HC.out _ D4.out.below
  clear hp h
  go_wp2_with fail
  refine (D4.out.put HB.out ⟨#[101, 110, 100, 46]⟩ (by decide)).mono ?_
  intro e w5 hp
  rcases hp.two with ⟨rfl, h⟩ | ⟨ps, rfl, h⟩
  rotate_left
  · exact ⟨rfl, (D4.out.dead h).to ⟨[], by simp only [List.nil_append, List.cons_append, List.append_assoc, List.append_nil]⟩⟩
  have D5 := Lib.hid (D4.out.then h)
  obtain ⟨d0, d5⟩ := HC.out _ D5.out.below
  clear hp h
  go_wp2_with fail
  exact bodyPost_end (results_none rfl _ _ _) rfl (D5.out.to (by simp only [List.nil_append, List.cons_append, List.append_assoc, List.append_nil]))
end Go.Proofs.YtboondbognbnnaaGreatDoor
