/- What word.Cut lays down, plain: kinds, lengths, the numbers' texts. The library's plain functions against the plain parser's. -/
import Derived.Test.YtpfkhdlnjefikaaGreatDoorMPzA
import Derived.Lib.SplitLaws
import Derived.Lib.Replace
import Derived.Lib.ParseIntB
import Derived.Lib.Strings
set_option linter.unusedVariables false
set_option linter.unusedSimpArgs false
namespace Go.Proofs.YtpfkhdlnjefikaaGreatDoor
namespace Pz
/-- a number's text -/
def NumOk (p : List UInt8) : Prop := p = [95] ∨ ∃ ds, (p = ds ∨ p = 95 :: ds) ∧ ds ≠ [] ∧ (∀ c ∈ ds, digit c = true) ∧ inRange (numberOf p) = true
def advL : List (List UInt8) := [[47], [92], [92, 46], [126]]
def conL : List (List UInt8) := [[64], [64, 58], [64, 46], [38], [38, 58], [38, 46], [38, 46, 58], [46, 46], [58, 58], [58, 46], [58], [94, 58], [34], [96]]
structure WordOk (m : Nat) (w : W) : Prop where
 len : w.text.length ≤ 2 * m
 k1 : 1 ≤ w.kind
 k7 : w.kind ≤ 7
 num : w.kind = 1 → ∀ p ∈ splitBlank w.text, NumOk p
 k5 : w.kind = 5 → w.text ∈ advL
 k6 : w.kind = 6 → w.text ∈ conL
structure Good (m : Nat) (ws : List W) : Prop where
 count : ws.length ≤ m
 word : ∀ w ∈ ws, WordOk m w
theorem WordOk.mono {m n : Nat} {w : W} (h : WordOk m w) (hm : m ≤ n) : WordOk n w := ⟨by have := h.len; omega, h.k1, h.k7, h.num, h.k5, h.k6⟩
theorem Good.snoc {m n : Nat} {ws : List W} {w : W} (h : Good m ws) (hm : m < n) (hw : WordOk n w) : Good n (ws ++ [w]) := by
 refine ⟨by have := h.count; simp; omega, fun v hv => ?_⟩
 rcases List.mem_append.1 hv with h' | h'
 · exact (h.word v h').mono (by omega)
 · simp at h'; subst h'; exact hw
theorem splitBlank_ne : ∀ l, splitBlank l ≠ []
 | [] => by simp [splitBlank]
 | c :: r => by
   have := splitBlank_ne r
   unfold splitBlank
   split
   · simp
   · split <;> simp
theorem splitBlank_plain : ∀ l : List UInt8, (∀ c ∈ l, c ≠ 32) → splitBlank l = [l]
 | [], _ => rfl
 | c :: r, h => by
   have ih := splitBlank_plain r (fun x hx => h x (by simp [hx]))
   have hc := h c (by simp)
   simp [splitBlank, ih, hc]
theorem splitBlank_app : ∀ a b : List UInt8, splitBlank (a ++ 32 :: b) = splitBlank a ++ splitBlank b
 | [], b => by
   have := splitBlank_ne b
   cases e : splitBlank b with
   | nil => exact absurd e this
   | cons p q => simp [splitBlank, e]
 | c :: a, b => by
   have ih := splitBlank_app a b
   rw [List.cons_append, splitBlank, ih]
   conv => rhs; rw [splitBlank]
   have hne := splitBlank_ne a
   cases hs : splitBlank a with
   | nil => exact absurd hs hne
   | cons p q =>
     simp only [List.cons_append]
     split <;> rfl
theorem span_all (p : UInt8 → Bool) : ∀ (l : List UInt8), ∀ c ∈ l.take (span p l), p c = true
 | [], c, h => by simp at h
 | b :: r, c, h => by
   unfold span at h
   split at h
   · rename_i hb
     rw [List.take_succ_cons] at h
     rcases List.mem_cons.1 h with e | h
     · rw [e]; exact hb
     · exact span_all p r c h
   · simp at h
theorem digit_ne {c : UInt8} (h : digit c = true) : c ≠ 32 ∧ c ≠ 95 := by
 unfold digit at h
 simp at h
 constructor <;> (rintro rfl; revert h; decide)
theorem numText {r : List UInt8} {b : UInt8} {q : List UInt8} (hr : r = b :: q) (hb : b = 95 ∨ digit b = true) (h : badText r = false) : NumOk (r.take (numLen r)) ∧ ∀ c ∈ r.take (numLen r), c ≠ 32 := by
 subst hr
 by_cases h95 : b = 95
 · subst h95
   have hl : numLen (95 :: q) = span digit q + 1 := by simp [numLen, signLen]; omega
   have ht : (95 :: q).take (numLen (95 :: q)) = 95 :: q.take (span digit q) := by rw [hl]; rfl
   have hd := span_all digit q
   refine ⟨?_, ?_⟩
   · unfold badText at h
     rw [ht] at h ⊢
     by_cases hz : q.take (span digit q) = []
     · exact .inl (by rw [hz])
     · refine .inr ⟨q.take (span digit q), .inr rfl, hz, hd, ?_⟩
       have hne : (95 :: q.take (span digit q) != [95]) = true := by simpa using hz
       rw [hne] at h
       simp only [Bool.true_and, Bool.or_eq_false_iff] at h
       simpa using h.2
   · rw [ht]
     intro c hc
     rcases List.mem_cons.1 hc with rfl | hc
     · decide
     · exact (digit_ne (hd c hc)).1
 · have hdb : digit b = true := hb.resolve_left h95
   have hs : signLen (b :: q) = 0 := by simp [signLen, h95]
   have hl : numLen (b :: q) = span digit (b :: q) := by simp [numLen, hs]
   have hd := span_all digit (b :: q)
   have hne : (b :: q).take (span digit (b :: q)) ≠ [] := by
     simp [span, hdb]
   refine ⟨?_, ?_⟩
   · refine .inr ⟨_, .inl rfl, ?_, ?_, ?_⟩
     · rw [hl]; exact hne
     · rw [hl]; exact hd
     · unfold badText at h
       have hn95 : ((b :: q).take (numLen (b :: q)) != [95]) = true := by
         rw [hl]
         simp [span, hdb, h95]
       rw [hn95] at h
       simp only [Bool.true_and, Bool.or_eq_false_iff] at h
       simpa using h.2
   · rw [hl]
     intro c hc
     exact (digit_ne (hd c hc)).1
theorem number_good {r : List UInt8} {at_ : Nat} {ws : List W} {b : UInt8} {q : List UInt8} {x : Nat × List W} (hr : r = b :: q) (hb : b = 95 ∨ digit b = true) (hg : Good at_ ws) (h : number r at_ ws = .ok x) : Good x.1 x.2 := by
 have hn := numLen_in hr hb
 unfold number at h
 split at h
 · cases h
 · split at h
   · cases h
   · rename_i h1 h2
     have h2 : badText r = false := by simpa using h2
     obtain ⟨hok, hpl⟩ := numText hr hb h2
     have hnew : WordOk (at_ + numLen r) ⟨1, r.take (numLen r), at_⟩ := by
       refine ⟨by simp only [List.length_take]; omega, by simp, by simp, fun _ p hp => ?_, fun e => by simp at e, fun e => by simp at e⟩
       rw [splitBlank_plain _ hpl] at hp
       simp at hp
       rw [hp]; exact hok
     split at h
     · rename_i w hw
       have hww := hg.word w (List.mem_of_getLast? hw)
       split at h
       · rename_i hk
         cases h
         have hne : ws ≠ [] := fun e => by subst e; simp at hw
         have hlen : ws.dropLast.length + 1 = ws.length := by
           have := List.length_pos_iff.2 hne
           simp; omega
         refine ⟨?_, ?_⟩
         · have := hg.count
           simp only [List.length_append, List.length_singleton]
           omega
         · intro v hv
           rcases List.mem_append.1 hv with h' | h'
           · exact (hg.word v (List.dropLast_subset _ h')).mono (Nat.le_add_right _ _)
           · simp at h'
             subst h'
             refine ⟨?_, hww.k1, hww.k7, fun _ p hp => ?_, fun e => by dsimp only at e; omega, fun e => by dsimp only at e; omega⟩
             · have := hww.len
               simp only [List.length_append, List.length_cons, List.length_take]
               omega
             · rw [splitBlank_app] at hp
               rcases List.mem_append.1 hp with hp | hp
               · exact hww.num hk p hp
               · rw [splitBlank_plain _ hpl] at hp
                 simp at hp
                 rw [hp]; exact hok
       · cases h
         exact hg.snoc (by omega) hnew
     · rename_i hw
       cases h
       have hws : ws = [] := List.getLast?_eq_none_iff.1 hw
       subst hws
       exact hg.snoc (by omega) hnew
theorem name_good {r : List UInt8} {at_ : Nat} {ws : List W} {b : UInt8} {q : List UInt8} {x : Nat × List W} (hr : r = b :: q) (hb : letter b = true) (hg : Good at_ ws) (h : name b r at_ ws = .ok x) : Good x.1 x.2 := by
 have hn : 1 ≤ span alnum r ∧ span alnum r ≤ r.length := by
   subst hr
   have h2 := span_le alnum q
   have ha : alnum b = true := by
     unfold letter at hb
     unfold alnum
     simp at hb ⊢
     rcases hb with h | h
     · exact .inl (.inl h)
     · exact .inl (.inr h)
   simp [span, ha]
   exact h2
 unfold name at h
 dsimp only at h
 generalize hs : span alnum r = n at hn h
 split at h
 · split at h
   · cases h
     exact hg.snoc (by dsimp only; omega) ⟨by simp; omega, (by simp), (by simp), fun e => by simp at e, fun e => by simp at e, fun e => by simp at e⟩
   · split at h
     · cases h
       exact hg.snoc (by dsimp only; omega) ⟨by simp; omega, (by simp), (by simp), fun e => by simp at e, fun e => by simp at e, fun e => by simp at e⟩
     · cases h
 · split at h
   · cases h
   · cases h
     refine hg.snoc (by dsimp only; omega) ⟨by simp; omega, ?_, ?_, ?_, ?_, ?_⟩
     · dsimp only; split <;> decide
     · dsimp only; split <;> decide
     · dsimp only; split <;> (intro e; simp at e)
     · dsimp only; split <;> (intro e; simp at e)
     · dsimp only; split <;> (intro e; simp at e)
theorem kindText_5 (t : List UInt8) (h : kindText t = 5) : t ∈ advL := by
 unfold kindText kindOf at h
 split at h
 · simp at h
 · split at h
   · assumption
   · split at h
     · simp at h
     · split at h <;> simp at h
theorem kindText_6 (t : List UInt8) (h : kindText t = 6) : t ∈ conL := by
 unfold kindText kindOf at h
 split at h
 · simp at h
 · split at h
   · simp at h
   · split at h
     · assumption
     · split at h <;> simp at h
theorem kindText_in (t : List UInt8) : kindText t = 0 ∨ (4 ≤ kindText t ∧ kindText t ≤ 7) := by
 unfold kindText kindOf
 (repeat' split) <;> first | exact .inl rfl | exact .inr (by decide)
theorem mark_good {r : List UInt8} {at_ : Nat} {ws : List W} {b : UInt8} {q : List UInt8} {x : Nat × List W} (hr : r = b :: q) (hg : Good at_ ws) (h : mark b r at_ ws = .ok x) : Good x.1 x.2 := by
 have h1 : 1 ≤ r.length := by subst hr; simp
 have hl : markLen r = 1 + span (fun c => c == 46 || c == 58) (r.drop 1) := rfl
 unfold mark at h
 split at h
 · cases h
   exact hg.snoc (by dsimp only; omega) ⟨by simp; omega, (by simp), (by simp), fun e => by simp at e, fun e => by simp at e, fun e => by simp at e⟩
 · split at h
   · cases h
     exact hg.snoc (by dsimp only; omega) ⟨by simp; omega, (by simp), (by simp), fun e => by simp at e, fun e => by simp at e, fun e => by simp at e⟩
   · split at h
     · cases h
       exact hg.snoc (by dsimp only; omega) ⟨by simp; omega, (by simp), (by simp), fun e => by simp at e, fun e => by simp at e, fun e => by simp at e⟩
     · split at h
       · cases h
         exact hg.snoc (by dsimp only; omega) ⟨by simp; omega, (by simp), (by simp), fun e => by simp at e, fun e => by simp at e, fun e => by simp at e⟩
       · split at h
         · cases h
         · split at h
           · cases h
           · rename_i hk
             cases h
             have hin := (kindText_in (r.take (markLen r))).resolve_left hk
             exact hg.snoc (by dsimp only; omega) ⟨by simp; omega, by dsimp only; omega, by dsimp only; omega, fun e => by dsimp only at e; omega, kindText_5 _, kindText_6 _⟩
theorem word_good {r : List UInt8} {at_ : Nat} {ws : List W} {b : UInt8} {q : List UInt8} {x : Nat × List W} (hr : r = b :: q) (hg : Good at_ ws) (h : word r at_ ws = .ok x) : Good x.1 x.2 := by
 subst hr
 unfold word at h
 dsimp only at h
 split at h
 · rename_i hc
   cases h
   obtain ⟨_, rfl, _⟩ := hc
   exact hg.snoc (by dsimp only; omega) ⟨by simp; omega, (by simp), (by simp), fun e => by simp at e, fun e => by simp at e, fun e => by simp at e⟩
 · split at h
   · rename_i hc; exact number_good rfl hc hg h
   · split at h
     · rename_i hc; exact name_good rfl hc hg h
     · exact mark_good rfl hg h
theorem Good.mono {m n : Nat} {ws : List W} (h : Good m ws) (hm : m ≤ n) : Good n ws := ⟨Nat.le_trans h.count hm, fun w hw => (h.word w hw).mono hm⟩
theorem cutF_good : ∀ (f : Nat) (s : List UInt8) (at_ : Nat) (ws vs : List W), at_ ≤ s.length → AtIn s.length ws → Good at_ ws → cutF f s at_ ws = .ok vs → Good s.length vs
 | 0, _, _, _, _, ha, _, hg, h => by cases h; exact hg.mono ha
 | f + 1, s, at_, ws, vs, ha, hi, hg, h => by
   unfold cutF at h
   split at h
   · cases h; exact hg.mono ha
   · rename_i b q e
     have hl : (s.drop at_).length = (b :: q).length := congrArg List.length e
     simp only [List.length_drop, List.length_cons] at hl
     split at h
     · exact cutF_good f s (at_ + 1) ws vs (by omega) hi (hg.mono (by omega)) h
     · split at h
       · cases h; exact hg.mono ha
       · have hf := word_fine (m := s.length) (r := b :: q) (at_ := at_) rfl (by simp only [List.length_cons]; omega) hi
         cases hw : word (b :: q) at_ ws with
         | bad c p => rw [hw] at h; cases h
         | ok x =>
           rw [hw] at h hf
           exact cutF_good f s x.1 x.2 vs hf.2.1 hf.2.2 (word_good rfl hg hw) h
theorem cut_good {s : List UInt8} {ws : List W} (h : cut s = .ok ws) : Good s.length ws := by
 unfold cut at h
 split at h
 · cases h
 · exact cutF_good _ s 0 [] ws (Nat.zero_le _) (fun w hw => by cases hw) ⟨Nat.le_refl _, fun w hw => by cases hw⟩ h
end Pz
end Go.Proofs.YtpfkhdlnjefikaaGreatDoor
namespace Go.Proofs.YtpfkhdlnjefikaaGreatDoor
namespace Pz
theorem starts_eq (p r : List UInt8) : Lib.hasPrefix r p = starts p r := by
 unfold Lib.hasPrefix starts
 by_cases h : p <+: r
 · rw [List.isPrefixOf_iff_prefix.2 h, List.prefix_iff_eq_take.1 h]
   simp
 · have h1 : p.isPrefixOf r = false := by
     cases hb : p.isPrefixOf r with
     | false => rfl
     | true => exact absurd (List.isPrefixOf_iff_prefix.1 hb) h
   rw [h1]
   have h2 : r.take p.length ≠ p := fun e => h (List.prefix_iff_eq_take.2 e.symm)
   simp [h2]
theorem index_one (c b : UInt8) (l : List UInt8) : Lib.index (b :: l) [c] = if b = c then 0 else if Lib.index l [c] == -1 then -1 else Lib.index l [c] + 1 := by
 rw [Lib.index]
 by_cases h : b = c
 · subst h
   simp [List.isPrefixOf]
 · have : (c == b) = false := by simp; exact fun e => h e.symm
   simp [List.isPrefixOf, this, h]
theorem index_miss (c : UInt8) : ∀ l : List UInt8, l.count c = 0 → Lib.index l [c] = -1
 | [], _ => rfl
 | b :: l, h => by
   rw [index_one]
   have hb : b ≠ c := fun e => by subst e; simp at h
   rw [if_neg hb, index_miss c l (by simpa [List.count_cons, hb] using h)]
   rfl
theorem index_hit (c : UInt8) : ∀ l : List UInt8, l.count c ≠ 0 → ∃ i : Nat, Lib.index l [c] = i
 | [], h => by simp at h
 | b :: l, h => by
   rw [index_one]
   by_cases hb : b = c
   · exact ⟨0, by rw [if_pos hb]; rfl⟩
   · obtain ⟨i, hi⟩ := index_hit c l (by simpa [List.count_cons, hb] using h)
     refine ⟨i + 1, ?_⟩
     rw [if_neg hb, hi]
     have : ((i : Int) == -1) = false := by rw [beq_eq_false_iff_ne]; omega
     simp [this]
theorem splitK_blank : ∀ l : List UInt8, Lib.splitK [32] 0 (l.count 32) l = splitBlank l
 | [] => rfl
 | b :: l => by
   have ih := splitK_blank l
   have hne := splitBlank_ne l
   by_cases hb : b = 32
   · subst hb
     have hk : (32 :: l).count 32 = l.count 32 + 1 := by simp
     rw [hk, Lib.splitK]
     have hi : Lib.index (32 :: l) [32] = 0 := by rw [index_one, if_pos rfl]
     rw [hi]
     simp only [show ((0 : Int) == -1) = false from rfl, Bool.false_eq_true, if_false]
     simp only [Int.toNat_zero, Nat.zero_add, List.take_zero, List.length_singleton, List.drop_succ_cons, List.drop_zero, ih]
     rw [splitBlank]
     split
     · exact absurd ‹_› hne
     · rename_i p q e
       rw [if_pos rfl, e]
   · have hk : (b :: l).count 32 = l.count 32 := by simp [List.count_cons, hb]
     rw [hk, splitBlank]
     cases hc : l.count 32 with
     | zero =>
       rw [hc] at ih
       rw [← ih]
       simp [Lib.splitK, hb]
     | succ k =>
       rw [hc] at ih
       obtain ⟨i, hi⟩ := index_hit 32 l (by omega)
       have hn : ((i : Int) == -1) = false := by rw [beq_eq_false_iff_ne]; omega
       have hi2 : Lib.index (b :: l) [32] = ((i + 1 : Nat) : Int) := by
         rw [index_one, if_neg hb, hi, hn]
         simp
       have hn2 : (((i + 1 : Nat) : Int) == -1) = false := by rw [beq_eq_false_iff_ne]; omega
       rw [Lib.splitK, hi, hn] at ih
       rw [Lib.splitK, hi2, hn2]
       simp only [Bool.false_eq_true, if_false, Int.toNat_natCast, Nat.add_zero] at ih ⊢
       rw [← ih]
       simp [hb, Nat.add_right_comm]
theorem split_blank (s : ByteArray) : (Lib.splitB ⟨#[32]⟩ 0 (Lib.countB s ⟨#[32]⟩) s).map (·.data.toList) = splitBlank s.data.toList := by
 rw [Lib.splitB_data, ← splitK_blank]
 have : Lib.countB s ⟨#[32]⟩ = s.data.toList.count 32 := Lib.count_one 32 _
 rw [this]
theorem value_from (l : List UInt8) (acc : Nat) : acc ≤ l.foldl (fun n c => n * 10 + (c.toNat - 48)) acc := by
 induction l generalizing acc with
 | nil => exact Nat.le_refl _
 | cons c l ih => exact Nat.le_trans (by omega) (ih (acc * 10 + (c.toNat - 48)))
theorem parseUintM_digits (M : Nat) (hM : M = 18446744073709551615) : ∀ (l : List UInt8) (acc : Nat), (∀ c ∈ l, digit c = true) → acc ≤ M →
   Lib.parseUintM M acc l = if l.foldl (fun n c => n * 10 + (c.toNat - 48)) acc ≤ M then .ok (l.foldl (fun n c => n * 10 + (c.toNat - 48)) acc) else .range
 | [], acc, _, ha => by simp [Lib.parseUintM, ha]
 | c :: r, acc, hd, ha => by
   have hc : 48 ≤ c.toNat ∧ c.toNat ≤ 57 := by
     have := hd c (by simp)
     unfold digit at this
     simpa using this
   have hge := value_from r (acc * 10 + (c.toNat - 48))
   rw [Lib.parseUintM, if_pos hc, List.foldl_cons]
   by_cases h1 : 1844674407370955162 ≤ acc
   · rw [if_pos h1, if_neg (by omega)]
   · rw [if_neg h1]
     by_cases h2 : M < acc * 10 + (c.toNat - 48)
     · rw [if_pos h2, if_neg (by omega)]
     · rw [if_neg h2]
       exact parseUintM_digits M hM r _ (fun x hx => hd x (by simp [hx])) (by omega)
theorem digit_range {c : UInt8} (h : digit c = true) : 48 ≤ c.toNat ∧ c.toNat ≤ 57 := by
 unfold digit at h
 simpa using h
theorem parseUintB_digits (l : List UInt8) (hne : l ≠ []) (hd : ∀ c ∈ l, digit c = true) : Lib.parseUintB 64 l = if value l ≤ 18446744073709551615 then .ok (value l) else .range := by
 rw [Lib.parseUintB, if_neg hne]
 exact parseUintM_digits _ rfl l 0 hd (Nat.zero_le _)
theorem count_digits (l : List UInt8) (hd : ∀ c ∈ l, digit c = true) : l.count 95 = 0 := List.count_eq_zero.2 (fun h => (digit_ne (hd 95 h)).2 rfl)
/-- the sign of a number's text, written as Go does -/
theorem replace_plain (l : List UInt8) (hd : ∀ c ∈ l, digit c = true) : Lib.replace l [95] [45] 1 = l := by
 rw [Lib.replace, if_neg (by decide)]
 have : Lib.replaceNum l [95] 1 = 0 := by
   unfold Lib.replaceNum
   rw [Lib.count_one, count_digits l hd]
   simp
 rw [this, Lib.replaceK]
theorem replace_sign (l : List UInt8) : Lib.replace (95 :: l) [95] [45] 1 = 45 :: l := by
 rw [Lib.replace, if_neg (by decide)]
 have : Lib.replaceNum (95 :: l) [95] 1 = 1 := by
   unfold Lib.replaceNum
   rw [Lib.count_one]
   simp
   omega
 rw [this, Lib.replaceK]
 have hi : Lib.index (95 :: l) [95] = 0 := by rw [index_one, if_pos rfl]
 rw [hi]
 simp [Lib.replaceK]
theorem parse_number {p ds : List UInt8} (h : p = ds ∨ p = 95 :: ds) (hne : ds ≠ []) (hd : ∀ c ∈ ds, digit c = true) :
   Lib.parseIntB 64 (Lib.replace p [95] [45] 1) = if inRange (numberOf p) = true then .ok (numberOf p) else .range := by
 rcases h with rfl | rfl
 · rw [replace_plain _ hd]
   cases p with
   | nil => exact absurd rfl hne
   | cons c r =>
     have hc := digit_range (hd c (by simp))
     have h1 : ¬ (c.toNat = 43 ∨ c.toNat = 45) := by omega
     have h2 : ¬ c.toNat = 45 := by omega
     have h3 : ¬ c.toNat = 43 := by omega
     have hn : numberOf (c :: r) = (value (c :: r) : Int) := by
       have hc95 := (digit_ne (hd c (by simp))).2
       unfold numberOf
       split
       · rename_i e; cases e; exact absurd rfl hc95
       · rfl
     rw [Lib.parseIntB]
     simp only [h2, h3, or_false, if_false, false_and, not_false_eq_true, true_and]
     rw [parseUintB_digits _ (by simp) hd, hn]
     unfold inRange
     by_cases hv : value (c :: r) ≤ 18446744073709551615
     · rw [if_pos hv]
       dsimp only
       by_cases h63 : 2 ^ (64 - 1) ≤ value (c :: r)
       · rw [if_pos h63, if_neg (by simp; omega)]
       · rw [if_neg h63, if_pos (by simp; omega)]
     · rw [if_neg hv]
       dsimp only
       rw [if_neg (by simp; omega)]
 · rw [replace_sign]
   have hn : numberOf (95 :: ds) = -(value ds : Int) := rfl
   rw [Lib.parseIntB]
   simp only [show (45 : UInt8).toNat = 45 from rfl, or_true, if_true, not_true_eq_false, false_and, if_false, true_and]
   rw [parseUintB_digits _ hne hd, hn]
   unfold inRange
   by_cases hv : value ds ≤ 18446744073709551615
   · rw [if_pos hv]
     dsimp only
     by_cases h63 : 2 ^ (64 - 1) < value ds
     · rw [if_pos h63, if_neg (by simp; omega)]
     · rw [if_neg h63, if_pos (by simp; omega)]
   · rw [if_neg hv]
     dsimp only
     rw [if_neg (by simp; omega)]
end Pz
end Go.Proofs.YtpfkhdlnjefikaaGreatDoor
