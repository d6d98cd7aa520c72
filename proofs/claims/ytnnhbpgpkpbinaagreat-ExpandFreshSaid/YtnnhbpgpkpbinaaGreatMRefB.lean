/- The document's answer, package abacusref9: Spellings, Of. The document's answer, package abacusref13: text. -/
import Derived.Test.YtnnhbpgpkpbinaaGreatMRef2
import Derived.Test.YtnnhbpgpkpbinaaGreatMPrimB
import Derived.Great.BuildSlice
set_option linter.unusedVariables false
set_option linter.unusedSimpArgs false
namespace Go.Proofs.YtnnhbpgpkpbinaaGreat
open Go.RowKit

theorem info_str : ∃ (ie : TypeInfo) (z : Value), Tryz.prog.info? 9 = some ie ∧ ie.zero = some z ∧ ie.size = 1 ∧ z.cells = #[.string (T.txt [])] := by
  have h : ((Tryz.prog.info? 9).bind fun ie => ie.zero.map fun z => (ie.size, z.cells)) = some (1, #[.string (T.txt [])]) := by kernel_rfl
  cases hi : Tryz.prog.info? 9 with
  | none => simp [hi] at h
  | some ie =>
    cases hz : ie.zero with
    | none => simp [hi, hz] at h
    | some z => simp [hi, hz] at h; exact ⟨ie, z, rfl, hz, h.1, h.2⟩

/-- the spellings lie in a block -/
def SpellAt (b : Nat) (w : World) : Prop := ∀ (i : Nat) (s : List UInt8), T.spells[i]? = some s → w.cell? ⟨b, i, none⟩ = some (.string (T.txt s))
def SpellPost (w : World) (e : Ending) (w' : World) : Prop := ∃ b, e = .returned (.slice (some ⟨b, 0, none⟩) 43 43) ∧ b < w'.heap.size ∧ SpellAt b w' ∧ Below w.heap.size w w'

set_option maxRecDepth 100000 in
set_option maxHeartbeats 4000000 in
theorem spell_calls (w : World) : Calls Tryz.prog 86 #[] w (SpellPost w) := by
  go_enter Tryz.func86, Tryz.ntmps86
  go_wp2_with fail
  go_ret
  refine ⟨w.heap.size, rfl, by simp, ?_, (Below.refl _ _).alloc (Nat.le_refl _) _⟩
  intro i s hi
  rw [World.cell?_alloc_new]
  have e : ∀ (C : Array Value), C = (T.spells.map fun s => Value.string (T.txt s)).toArray → C[i]? = some (.string (T.txt s)) := by
    intro C hC
    rw [hC, List.getElem?_toArray, List.getElem?_map, hi]
    rfl
  exact e _ (by kernel_rfl)

/-- the number of a spelling among the first so many -/
theorem idx_at {l : List (List UInt8)} (hd : l.Nodup) {i : Nat} {s : List UInt8} (h : l[i]? = some s) : l.idxOf s = i := by
  obtain ⟨hi, rfl⟩ := List.getElem?_eq_some_iff.1 h
  exact hd.idxOf_getElem i hi

def RefOfPost (s : ByteArray) (w : World) (e : Ending) (w' : World) : Prop := e = .returned (.tuple #[.int .i64 (T.primNo s.data.toList), .bool (T.isPrim s.data.toList)]) ∧ Below w.heap.size w w'

set_option maxRecDepth 100000 in
set_option maxHeartbeats 4000000 in
theorem refOf_calls (s : ByteArray) (w : World) (hs : s.size ≤ maxLen) : Calls Tryz.prog 81 #[.string s] w (RefOfPost s w) := by
  have HN : Hid (T.spells.Nodup) := by show T.spells.Nodup; decide +kernel
  go_enter Tryz.func81, Tryz.ntmps81
  go_wp2_with (first | (go_at_call 86; refine (spell_calls _).mono ?_; rintro e w1 ⟨b, rfl, hbs, hsp, hB⟩; have HS := Lib.hid hsp; have HB := Lib.hid hB; clear hsp hB))
  go_loop [5] (fun i => ∃ j : Nat, j ≤ 43 ∧ i = .int .i64 j ∧ Hid (∀ k l, k < j → T.spells[k]? = some l → l ≠ s.data.toList)) (fun i => 43 - (intOf i).toNat)
  case atStart => exact ⟨0, by omega, rfl, fun k l hk => by omega⟩
  case round =>
    obtain ⟨j, hj, rfl, hno⟩ := hrel
    by_cases hlt : j < 43
    · obtain ⟨l, hl⟩ : ∃ l, T.spells[j]? = some l := ⟨T.spells[j]'(by show j < 43; exact hlt), by simp⟩
      have hcell := HS.out j l hl
      have HL := Lib.hid hl
      clear hl
      by_cases he : l = s.data.toList
      · have hq : ((T.txt l).toList == s.toList) = true := by simp [ByteArray.toList_eq, T.txt, he]
        have HE := Lib.hid he
        clear he
        go_wp2_with fail
        refine bodyPost_ret (v := .tuple #[.int .i64 (j + 1), .bool true]) (by simp [results, Tryz.results81, go_sem]) rfl ?_
        have hm : T.isPrim s.data.toList = true := by
          rw [← HE.out, T.isPrim, List.contains_iff_mem]
          exact List.mem_of_getElem? HL.out
        have hx : T.spells.idxOf s.data.toList = j := by rw [← HE.out]; exact idx_at HN.out HL.out
        refine ⟨?_, HB.out⟩
        rw [T.primNo, if_pos hm, hx, hm]
      · have hq : ((T.txt l).toList == s.toList) = false := by
          rw [beq_eq_false_iff_ne, ByteArray.toList_eq, ByteArray.toList_eq]
          simpa [T.txt] using he
        have HE := Lib.hid he
        clear he
        go_wp2_with fail
        go_round
        case rel =>
          refine ⟨j + 1, by omega, by go_num, ?_⟩
          show ∀ k l, k < j + 1 → T.spells[k]? = some l → l ≠ s.data.toList
          intro k u hk hu
          rcases Nat.lt_succ_iff_lt_or_eq.1 hk with h | rfl
          · exact hno.out k u h hu
          · have := hu.symm.trans HL.out
            injection this with this
            rw [this]; exact HE.out
        case measure => simp [intOf]; omega
    · go_wp2_with fail
      refine bodyPost_ret (v := .tuple #[.int .i64 0, .bool false]) (by simp [results, Tryz.results81, go_sem]) rfl ?_
      have hm : T.isPrim s.data.toList = false := by
        rw [Bool.eq_false_iff, T.isPrim, ne_eq, List.contains_iff_mem]
        intro hmem
        obtain ⟨k, hk⟩ := List.getElem?_of_mem hmem
        have hk43 : k < 43 := (List.getElem?_eq_some_iff.1 hk).1
        exact hno.out k _ (by omega) hk rfl
      refine ⟨?_, HB.out⟩
      rw [T.primNo, if_neg (by rw [hm]; decide), hm]
end Go.Proofs.YtnnhbpgpkpbinaaGreat

namespace Go.Proofs.YtnnhbpgpkpbinaaGreat
open Go.RowKit

theorem rname_calls (s : ByteArray) (lo hi : Int) (w : World) (hs : s.size ≤ 140737488355328) (h : lo = 97 ∧ hi = 122 ∨ lo = 65 ∧ hi = 90) :
    Calls Tryz.prog 80 #[.string s, .int .u8 lo] w fun e w' => e = .returned (.bool (T.named s.data.toList lo hi)) ∧ w = w' := by
  by_cases hb : s.size < 1 ∨ 32 < s.size
  · refine (rname_no s lo w hs hb).mono ?_
    rintro e w' ⟨rfl, rfl⟩
    refine ⟨ret_bool ?_, rfl⟩
    have hl : s.data.toList.length = s.size := Array.length_toList
    generalize s.data.toList = L at *
    cases L with
    | nil => rfl
    | cons c r =>
      have : ¬ (c :: r).length ≤ 32 := by simp at hl ⊢; omega
      simp [T.named, this]
      intro h32
      simp at this
      omega
  · exact rname_yes s lo hi w (by omega) (by omega) h

/-- is the Text as the kind says? -/
def T.textK (k : Int) (s : List UInt8) (bare : Bool) : Bool :=
  if k = 2 ∨ k = 11 then T.named s 97 122 && !(bare && s == [120]) else if k = 21 then T.named s 65 90 else if k = 20 then T.isPrim s else s.isEmpty

/-- a node of a row: a term, how deep it lies, within a definition of one argument -/
def nodeV (x : TV) (d : Int) (b : Bool) : Value := .agg #[.int .i64 x.kind, .string x.text, .int .i64 x.n, .slice x.sa x.sl x.sc, .slice x.aa x.al x.ac, .slice x.ka x.kl x.kc, .int .i64 d, .bool b]

set_option maxRecDepth 100000 in
set_option maxHeartbeats 4000000 in
theorem rtext_calls (x : TV) (d : Int) (bare : Bool) (w : World) (hs : x.text.size ≤ 140737488355328) :
    Calls Tryz.prog 69 #[nodeV x d bare] w fun e w' => e = .returned (.bool (T.textK x.kind x.text.data.toList bare)) ∧ Below w.heap.size w w' := by
  obtain ⟨kind, text, n, sa, sl, sc, aa, al, ac, ka, kl, kc⟩ := x
  simp only [nodeV] at hs ⊢
  have hsm : text.size ≤ maxLen := by unfold maxLen; omega
  have HNa := Lib.hid (fun W => rname_calls text 97 122 W hs (Or.inl ⟨rfl, rfl⟩))
  have HNA := Lib.hid (fun W => rname_calls text 65 90 W hs (Or.inr ⟨rfl, rfl⟩))
  have HP := Lib.hid (fun W => refOf_calls text W hsm)
  have HX : Hid ((text.toList == [120]) = (text.data.toList == [120])) := by show _ = _; rw [ByteArray.toList_eq]
  by_cases hk : kind = 2 ∨ kind = 11
  · have HK : Hid (T.textK kind text.data.toList bare = (T.named text.data.toList 97 122 && !(bare && text.data.toList == [120]))) := by show _ = _; simp [T.textK, hk]
    cases hn : T.named text.data.toList 97 122
    all_goals cases bare
    all_goals go_enter Tryz.func69, Tryz.ntmps69
    all_goals go_wp2_with (go_at_call 80; refine (HNa.out _).mono ?_; rintro e w1 ⟨rfl, rfl⟩)
    all_goals go_ret
    all_goals refine ⟨ret_bool ?_, (Below.refl _ _).alloc (Nat.le_refl _) _⟩
    all_goals (rw [HK.out, hn]; (try rw [← HX.out]); simp_all)
  · have hk2 : (kind == 2) = false := by simp; omega
    have hk11 : (kind == 11) = false := by simp; omega
    have HK : Hid (T.textK kind text.data.toList bare = if kind = 21 then T.named text.data.toList 65 90 else if kind = 20 then T.isPrim text.data.toList else text.data.toList.isEmpty) := by show _ = _; simp [T.textK, hk]
    have HE : Hid (text.data.toList.isEmpty = (text.toList == [])) := by show _ = _; rw [ByteArray.toList_eq]; cases text.data.toList <;> rfl
    go_enter Tryz.func69, Tryz.ntmps69
    go_wp2_with (first
      | (go_at_call 80; refine (HNA.out _).mono ?_; rintro e w1 ⟨rfl, rfl⟩)
      | (go_at_call 81; refine (HP.out _).mono ?_; rintro e w1 ⟨rfl, hb⟩; have HB := Lib.hid hb; clear hb))
    all_goals go_ret
    all_goals refine ⟨ret_bool ?_, ?_⟩
    all_goals first
      | (with_reducible exact (Below.refl _ _).alloc (Nat.le_refl _) _)
      | (with_reducible exact Below.trans ((Below.refl _ _).alloc (Nat.le_refl _) _) (HB.out.mono (by simp)))
      | (rw [HK.out]; (try rw [HE.out]); simp_all; done)
      | skip
end Go.Proofs.YtnnhbpgpkpbinaaGreat
