/- The parser over words that are told by their kinds and texts: single steps. The parser over words that are told by their kinds and texts: units behind one another, brackets, conjunctions. The parser over words that are told by their kinds and texts: leaves, the other conjunctions, nouns. The parser over words that are told by their kinds and texts: lists of nouns, verbs and sentences; trains; definitions. The parser over words that are told by their kinds and texts: trains, agendas, what stands behind a verb. What print writes of a term that may be is read back as it. -/
import Derived.Test.YtboondbognbnnaaGreatDoorQPpA
import Derived.Test.YtboondbognbnnaaGreatDoorQPzA
set_option linter.unusedVariables false
set_option linter.unusedSimpArgs false
namespace Go.Proofs.YtboondbognbnnaaGreatDoor
namespace Pp
open Pz
abbrev Key := Int × List UInt8
def key (w : W) : Key := (w.kind, w.text)
def keys (ws : List W) (n : Nat) : List Key := (ws.drop n).map key
/-- the words of pieces -/
def wl : List Pc → List Key
  | [] => []
  | .b :: l => wl l
  | .w k s :: l => (k, s) :: wl l
theorem wl_append : ∀ a b : List Pc, wl (a ++ b) = wl a ++ wl b
  | [], _ => rfl
  | .b :: a, b => wl_append a b
  | .w k s :: a, b => by simp [wl, wl_append a b]
theorem keys_words : ∀ (l : List Pc) (a : Nat), (wordsAt a l).map key = wl l
  | [], _ => rfl
  | .b :: l, a => keys_words l (a + 1)
  | .w k s :: l, a => by simp [wordsAt, wl, key, keys_words l]
section
variable {ws : List W} {e n : Nat}
theorem keys_len (l : List Key) (h : keys ws n = l) : ws.length - n = l.length := by rw [← h]; simp [keys]
theorem keys_cons {k : Int} {s : List UInt8} {r : List Key} (h : keys ws n = (k, s) :: r) : ∃ a, ws[n]? = some ⟨k, s, a⟩ ∧ place ws e n = a ∧ keys ws (n + 1) = r ∧ n < ws.length := by
  unfold keys at h ⊢
  cases hd : ws.drop n with
  | nil => rw [hd] at h; cases h
  | cons w q =>
    rw [hd] at h
    simp only [List.map_cons, List.cons.injEq, key, Prod.mk.injEq] at h
    have hn : ws[n]? = some w := by rw [← List.head?_drop, hd]; rfl
    obtain ⟨k', s', a⟩ := w
    obtain ⟨⟨rfl, rfl⟩, h2⟩ := h
    refine ⟨a, hn, by unfold place; rw [hn], ?_, (List.getElem?_eq_some_iff.1 hn).1⟩
    rw [← List.drop_drop, hd]; simpa using h2
theorem keys_nil (h : keys ws n = []) : ws[n]? = none := by
  have := keys_len [] h
  rw [List.getElem?_eq_none_iff]; simp only [List.length_nil] at this; omega
theorem sees_key {k : Int} {s : List UInt8} {r : List Key} (h : keys ws n = (k, s) :: r) (p : List UInt8) : sees ws n p = (k == 7 && s == p) := by
  obtain ⟨a, h1, _⟩ := keys_cons (e := 0) h
  unfold sees; rw [h1]
theorem sees_nil (h : keys ws n = []) (p : List UInt8) : sees ws n p = false := by unfold sees; rw [keys_nil h]
theorem tie_key {k : Int} {s : List UInt8} {r : List Key} (h : keys ws n = (k, s) :: r) : tie ws n = (k == 6 && s == [96]) := by
  obtain ⟨a, h1, _⟩ := keys_cons (e := 0) h
  unfold tie; rw [h1]
theorem tie_nil (h : keys ws n = []) : tie ws n = false := by unfold tie; rw [keys_nil h]
/-- a word that a phrase may begin with, but '[:' -/
def FK (q : Key) : Prop := (1 ≤ q.1 ∧ q.1 ≤ 4) ∨ (q.1 = 7 ∧ q.2 ∈ ([[40], [123, 123, 41, 109], [123, 123, 41, 100], [112, 105, 99, 107, 46]] : List (List UInt8)))
theorem FK.begins {q : Key} {r : List Key} (hq : FK q) (h : keys ws n = q :: r) : Pz.begins ws n = true ∧ sees ws n [91, 58] = false ∧ tie ws n = false := by
  obtain ⟨k, s⟩ := q
  obtain ⟨a, h1, _⟩ := keys_cons (e := 0) h
  rw [sees_key h, tie_key h]
  unfold Pz.begins
  rw [h1]
  rcases hq with ⟨h2, h3⟩ | ⟨h2, h3⟩
  · have h7 : k ≠ 7 := by have : k ≤ 4 := h3; omega
    have h4 : k ≤ 4 := h3
    have h6 : k ≠ 6 := by omega
    simp [h7, h4, h6]
  · have h2 : k = 7 := h2
    subst h2
    simp only [List.mem_cons, List.not_mem_nil, or_false] at h3
    rcases h3 with h3 | h3 | h3 | h3 <;> rw [h3] <;> simp
/-- what may stand behind a whole unit -/
def Rest (r : List Key) : Prop := ∀ k s q, r = (k, s) :: q → k ≠ 5 ∧ (k = 6 → s = [96])
def closers : List (List UInt8) := [[41], [59], [125, 125], [100, 111, 46], [101, 108, 115, 101, 46], [101, 110, 100, 46], [111, 114, 46]]
def End (r : List Key) : Prop := ∀ k s q, r = (k, s) :: q → k = 7 ∧ s ∈ closers
theorem End.rest {r : List Key} (h : End r) : Rest r := fun k s q e => by have := (h k s q e).1; omega
theorem FK.rest {q : Key} (h : FK q) (r : List Key) : Rest (q :: r) := by
  intro k s p e
  cases e
  rcases h with h | h
  · have : k ≤ 4 := h.2; omega
  · have : k = 7 := h.1; omega
theorem End.cons {s : List UInt8} (q : List Key) (h : s ∈ closers) : End ((7, s) :: q) := fun k t p e => by cases e; exact ⟨rfl, h⟩
theorem End.nil : End [] := fun k s q e => by cases e
theorem End.begins {r : List Key} (hr : End r) (h : keys ws n = r) : Pz.begins ws n = false ∧ tie ws n = false := by
  cases r with
  | nil => exact ⟨by unfold Pz.begins; rw [keys_nil h], tie_nil h⟩
  | cons q r =>
    obtain ⟨k, s⟩ := q
    obtain ⟨h1, h2⟩ := hr k s r rfl
    subst h1
    obtain ⟨a, h3, _⟩ := keys_cons (e := 0) h
    rw [tie_key h]
    unfold Pz.begins
    rw [h3]
    simp only [closers, List.mem_cons, List.not_mem_nil, or_false] at h2
    rcases h2 with h2 | h2 | h2 | h2 | h2 | h2 | h2 <;> rw [h2] <;> simp
/-- a plain unit -/
abbrev un (t : T) (a : Int) : U := ⟨t, none, false, a⟩
theorem behindU_stop {r : List Key} (hr : Rest r) (h : keys ws n = r) (f : Nat) (at_ : Int) (o : Nat) (t : T) (a : Int) : behindU ws e (f + 1) at_ n o (un t a) = .ok (un t a, n) := by
  unfold behindU
  cases r with
  | nil => rw [keys_nil h]; rfl
  | cons q r =>
    obtain ⟨k, s⟩ := q
    obtain ⟨b, h1, _⟩ := keys_cons (e := 0) h
    rw [h1]
    have := hr k s r rfl
    simp only [Option.isSome_none, Bool.false_eq_true, if_false, false_and]
    rw [if_pos]
    refine ⟨this.1, ?_⟩
    by_cases hk : k = 6
    · exact .inr (this.2 hk)
    · exact .inl hk
theorem unit_go {q : Key} {r : List Key} (hq : FK q) (h : keys ws n = q :: r) (f o : Nat) : unit ws e (f + 1) n o = (primary ws e f n o).andThen fun x => behindU ws e f (place ws e n) x.2 o x.1 := by
  unfold unit
  rw [(hq.begins h).2.1]; rfl
theorem fromU_go {n' : Nat} {u : U} {f o : Nat} {l : List U} (hb : Pz.begins ws n = true) (hu : unit ws e f n o = .ok (u, n')) : fromU ws e (f + 1) n o l = fromU ws e f n' o (l ++ [u]) := by
  rw [fromU.eq_def]
  simp only [hb, if_true, hu, R.andThen]
theorem takes_key {k : Int} {s : List UInt8} {r : List Key} (h : keys ws n = (7, s) :: r) : takes ws e n s = .ok (n + 1) := by
  unfold takes; rw [sees_key h]; simp
theorem opens_le {o : Nat} (h : o + 1 ≤ 512) : opens ws e n o = .ok (n + 1, o + 1) := by unfold opens; rw [if_neg (by omega)]
end
/-! a noun's units -/
theorem un_verb {t : T} {a : Int} (h : T.cls t.kind = 3) : (un t a).verb = true ∧ (un t a).noun = false := by simp [U.verb, U.noun, h]
theorem un_noun {t : T} {a : Int} (h : T.cls t.kind = 1) : (un t a).noun = true ∧ (un t a).verb = false := by simp [U.verb, U.noun, h]
inductive Sp : T → List U → Prop
  | one (x : T) (u : U) : u.t = x → u.noun = true → Sp x [u]
  | mon (v x : T) (u : U) (us : List U) : u.t = v → u.verb = true → u.noun = false → Sp x us → Sp (made 3 [v, x]) (u :: us)
  | dy (v x y : T) (z u : U) (us : List U) : z.t = x → z.noun = true → u.t = v → u.verb = true → u.noun = false → Sp y us → Sp (made 4 [v, x, y]) (z :: u :: us)
theorem Sp.last {x : T} {us : List U} (h : Sp x us) : ∃ u, us.getLast? = some u ∧ u.noun = true ∧ ∀ pre : List U, (∀ v, pre.getLast? = some v → v.noun = false) → sentenceL (pre ++ us) (pre.length + us.length - 1) u.t = sentenceL (pre ++ us) pre.length x := by
  induction h with
  | one x u h1 h2 => exact ⟨u, rfl, h2, fun pre _ => by subst h1; simp⟩
  | mon v x u us h1 h2 h3 hs ih =>
    obtain ⟨w, hw, hn, hp⟩ := ih
    refine ⟨w, by rw [List.getLast?_cons, hw]; rfl, hn, fun pre hpre => ?_⟩
    have := hp (pre ++ [u]) (fun v hv => by simp at hv; subst hv; exact h3)
    simp only [List.append_assoc, List.singleton_append, List.length_append, List.length_singleton] at this
    have e1 : pre.length + (u :: us).length - 1 = pre.length + 1 + us.length - 1 := by simp only [List.length_cons]; omega
    rw [e1, this]
    have hg : (pre ++ u :: us)[pre.length]? = some u := by simp
    rw [sentenceL, hg]
    simp only [h2, Bool.true_eq_false, if_false, h1]
    cases hl : pre.length with
    | zero => rw [sentenceL]
    | succ j =>
      dsimp only
      have hj : j < pre.length := by omega
      have hg2 : (pre ++ u :: us)[j]? = some pre[j] := by rw [List.getElem?_append_left hj, List.getElem?_eq_getElem hj]
      rw [hg2]
      have : pre.getLast? = some pre[j] := by rw [List.getLast?_eq_getElem?, hl]; simp [hj]
      simp only [hpre _ this, Bool.false_eq_true, if_false]
  | dy v x y z u us h1 h2 h3 h4 h5 hs ih =>
    obtain ⟨w, hw, hn, hp⟩ := ih
    refine ⟨w, by rw [List.getLast?_cons, List.getLast?_cons, hw]; rfl, hn, fun pre hpre => ?_⟩
    have := hp (pre ++ [z, u]) (fun v hv => by simp at hv; subst hv; exact h5)
    simp only [List.append_assoc, List.cons_append, List.nil_append, List.length_append, List.length_cons, List.length_nil] at this
    have e1 : pre.length + (z :: u :: us).length - 1 = pre.length + (0 + 1 + 1) + us.length - 1 := by simp only [List.length_cons]; omega
    rw [e1, this]
    have hg : (pre ++ z :: u :: us)[pre.length + 1]? = some u := by rw [List.getElem?_append_right (by omega)]; simp
    have hg2 : (pre ++ z :: u :: us)[pre.length]? = some z := by simp
    rw [show pre.length + (0 + 1 + 1) = pre.length + 1 + 1 from rfl, sentenceL, hg]
    simp only [h4, Bool.true_eq_false, if_false, h3, hg2, h2, if_true, h1]
theorem Sp.sentence {x : T} {us : List U} (h : Sp x us) : ∃ u, us.getLast? = some u ∧ u.noun = true ∧ sentenceL us (us.length - 1) u.t = .ok x := by
  obtain ⟨u, h1, h2, h3⟩ := h.last
  refine ⟨u, h1, h2, ?_⟩
  have := h3 [] (fun v hv => by simp at hv)
  simp only [List.nil_append, List.length_nil, Nat.zero_add] at this
  rw [this, sentenceL]
end Pp
end Go.Proofs.YtboondbognbnnaaGreatDoor

namespace Go.Proofs.YtboondbognbnnaaGreatDoor
namespace Pp
open Pz
abbrev wn (l : List Pc) : Nat := (wl l).length
/-- primary reads l as t -/
def PrimOf (t : T) (l : List Pc) (d : Nat) : Prop := ∀ (ws : List W) (e n o f : Nat) (r : List Key), keys ws n = wl l ++ r → o + d ≤ 512 → need ws n 1 ≤ f → primary ws e f n o = .ok (un t (place ws e n), n + wn l)
/-- unit reads l as t, and goes on behind it -/
def UnitOf (t : T) (l : List Pc) (d : Nat) : Prop := ∀ (ws : List W) (e n o f : Nat) (r : List Key), keys ws n = wl l ++ r → o + d ≤ 512 → need ws n 3 ≤ f →
  ∃ f', need ws (n + wn l) 2 ≤ f' ∧ unit ws e f n o = behindU ws e f' (place ws e n) (n + wn l) o (un t (place ws e n))
/-- it begins as a phrase does -/
def First (l : List Pc) : Prop := ∃ q r, wl l = q :: r ∧ FK q
theorem First.app {l : List Pc} (h : First l) (m : List Pc) : First (l ++ m) := by
  obtain ⟨q, r, h1, h2⟩ := h
  exact ⟨q, r ++ wl m, by rw [wl_append, h1]; rfl, h2⟩
theorem First.keys {l : List Pc} (h : First l) {ws : List W} {n : Nat} {r : List Key} (hk : Pp.keys ws n = wl l ++ r) : ∃ q p, Pp.keys ws n = q :: p ∧ FK q ∧ n < ws.length := by
  obtain ⟨q, p, h1, h2⟩ := h
  rw [h1] at hk
  obtain ⟨k, s⟩ := q
  obtain ⟨a, _, _, _, hn⟩ := keys_cons (e := 0) hk
  exact ⟨_, _, hk, h2, hn⟩
theorem First.pos {l : List Pc} (h : First l) : 1 ≤ wn l := by obtain ⟨q, r, h1, _⟩ := h; simp [wn, h1]
theorem keys_skip : ∀ (l r : List Key) {ws : List W} {n : Nat}, keys ws n = l ++ r → keys ws (n + l.length) = r
  | [], r, ws, n, h => h
  | (k, s) :: l, r, ws, n, h => by
    obtain ⟨_, _, _, h2, _⟩ := keys_cons (e := 0) h
    have := keys_skip l r h2
    rw [List.length_cons, show n + (l.length + 1) = n + 1 + l.length by omega]; exact this
theorem need_skip {ws : List W} {n m a b f : Nat} (h : need ws n a ≤ f) (hm : n < m) (hn : n < ws.length) (hab : b ≤ a + 13) : need ws m b ≤ f := by unfold need at *; omega
theorem need_mono {ws : List W} {n a b f g : Nat} (h : need ws n a ≤ f) (hg : f + b ≤ g + a) : need ws n b ≤ g := by unfold need at *; omega
section
variable {ws : List W} {e n : Nat}
theorem PrimOf.unit {t : T} {l : List Pc} {d : Nat} (h : PrimOf t l d) (hf : First l) : UnitOf t l d := by
  intro ws e n o f r hk ho hn
  obtain ⟨g, rfl⟩ : ∃ g, f = g + 1 := ⟨f - 1, by unfold need at hn; omega⟩
  obtain ⟨q, p, h1, h2, h3⟩ := hf.keys hk
  have hp := hf.pos
  refine ⟨g, by unfold need at *; omega, ?_⟩
  rw [unit_go h2 h1, h ws e n o g r hk ho (by unfold need at *; omega)]
  rfl
theorem UnitOf.whole {t : T} {l : List Pc} {d : Nat} (h : UnitOf t l d) {o f : Nat} {r : List Key} (hk : keys ws n = wl l ++ r) (hr : Rest r) (ho : o + d ≤ 512) (hn : need ws n 3 ≤ f) :
    unit ws e f n o = .ok (un t (place ws e n), n + wn l) := by
  obtain ⟨f', h1, h2⟩ := h ws e n o f r hk ho hn
  obtain ⟨g, rfl⟩ : ∃ g, f' = g + 1 := ⟨f' - 1, by unfold need at h1; omega⟩
  rw [h2]
  exact behindU_stop hr (keys_skip _ _ hk) g _ o t _
/-- what stands between brackets -/
theorem primary_bracket {w : W} {o g : Nat} {t : T} {m : Nat} {u : U} {n1 : Nat} {r : List Key} (hw : ws[n]? = some w) (h1 : w.kind = 7) (h2 : w.text = [40]) (ho : o + 1 ≤ 512) (hb : Pz.begins ws (n + 1) = true)
    (hu : unit ws e g (n + 1) (o + 1) = .ok (u, n1)) (ht : tie ws n1 = false) (hf : fromU ws e g n1 (o + 1) [u] = .ok (t, m)) (hm : keys ws m = (7, [41]) :: r) :
    primary ws e (g + 3) n o = .ok (un t w.at_, m + 1) := by
  rw [primary.eq_def]
  simp only [hw, h1]
  rw [if_neg (by decide), if_neg (by decide), if_neg (by decide), if_neg (by decide), opens_le ho]
  simp only [R.andThen]
  rw [within.eq_def]
  simp only [h2, if_true]
  rw [bracket.eq_def]
  simp only [hb, Bool.true_eq_false, if_false, hu, R.andThen, ht, if_true, hf]
  rw [takes_key (k := 7) hm]
theorem fromU_verbs {f o : Nat} {l : List U} {u : U} {t : T} {r : List Key} (hr : End r) (hk : keys ws n = r) (hl : l.getLast? = some u) (hv : ∀ v ∈ l, v.noun = false) (hc : u.cap = false) (ht : trainL l (l.length - 1) u.t = .ok t) :
    fromU ws e (f + 1) n o l = .ok (t, n) := by
  rw [fromU.eq_def]
  have hu : u.noun = false := hv u (List.mem_of_getLast? hl)
  have ha : l.any U.noun = false := by rw [List.any_eq_false]; intro x hx; rw [hv x hx]; decide
  simp only [(hr.begins hk).1, Bool.false_eq_true, if_false, hl, hu, ha, hc, ht, R.andThen]
theorem fromU_noun {f o : Nat} {x : T} {us : List U} {r : List Key} (hr : End r) (hk : keys ws n = r) (hs : Sp x us) : fromU ws e (f + 1) n o us = .ok (x, n) := by
  obtain ⟨u, h1, h2, h3⟩ := hs.sentence
  rw [fromU.eq_def]
  simp only [(hr.begins hk).1, Bool.false_eq_true, if_false, h1, h2, if_true, h3, R.andThen]
theorem place_at {a : Nat} {k : Int} {s : List UInt8} (h : ws[n]? = some ⟨k, s, a⟩) : place ws e n = a := by unfold place; rw [h]
/-- a verb between brackets -/
theorem bracket_verb {t : T} {l : List Pc} {d : Nat} (h : UnitOf t l d) (hf : First l) (hc : T.cls t.kind = 3) : PrimOf t (.w 7 [40] :: l ++ [.w 7 [41]]) (d + 1) := by
  intro ws e n o f r hk ho hn
  simp only [List.cons_append, wl, wl_append, List.append_assoc, List.nil_append] at hk
  obtain ⟨a, hw, hp, hk1, hlt⟩ := keys_cons (e := e) hk
  obtain ⟨q, p, h1, h2, h3⟩ := hf.keys hk1
  obtain ⟨g, rfl⟩ : ∃ g, f = g + 3 := ⟨f - 3, by unfold need at hn; omega⟩
  have hu := h.whole (e := e) (o := o + 1) (f := g) hk1 (End.cons _ (by decide)).rest (by omega) (by unfold need at *; omega)
  have hk2 := keys_skip _ _ hk1
  have hg : 1 ≤ g := by unfold need at hn; omega
  obtain ⟨g', rfl⟩ : ∃ g', g = g' + 1 := ⟨g - 1, by omega⟩
  have hvb := un_verb (a := place ws e (n + 1)) hc
  have := primary_bracket (e := e) (o := o) hw rfl rfl (by omega) (h2.begins h1).1 hu (by rw [tie_key hk2]; decide)
    (fromU_verbs (u := un t (place ws e (n + 1))) (t := t) (End.cons _ (by decide)) hk2 rfl (by intro v hv; rw [List.mem_singleton.1 hv]; exact hvb.2) rfl (by rw [trainL.eq_def]; rfl)) hk2
  rw [this, hp]
  simp [wn, wl, wl_append]; omega
theorem First.brk {l : List Pc} (h : First l) (so : Bool) : First (brk so l) := by
  cases so with
  | false => exact h
  | true => exact ⟨(7, [40]), _, rfl, .inr ⟨rfl, by decide⟩⟩
theorem UnitOf.mono {t : T} {l : List Pc} {d d' : Nat} (h : UnitOf t l d) (hd : d ≤ d') : UnitOf t l d' := fun ws e n o f r hk ho hn => h ws e n o f r hk (by omega) hn
theorem PrimOf.mono {t : T} {l : List Pc} {d d' : Nat} (h : PrimOf t l d) (hd : d ≤ d') : PrimOf t l d' := fun ws e n o f r hk ho hn => h ws e n o f r hk (by omega) hn
theorem UnitOf.brk {t : T} {l : List Pc} {d : Nat} (h : UnitOf t l d) (hf : First l) (hc : T.cls t.kind = 3) (so : Bool) : UnitOf t (brk so l) (d + 1) := by
  cases so with
  | false => exact h.mono (by omega)
  | true => exact (bracket_verb h hf hc).unit ⟨(7, [40]), _, rfl, .inr ⟨rfl, by decide⟩⟩
/-! what stands behind a conjunction -/
theorem side_prim {t : T} {l : List Pc} {d : Nat} (h : PrimOf t l d) (hf : First l) {o f : Nat} {r : List Key} (hk : keys ws n = wl l ++ r) (ho : o + d ≤ 512) (hn : need ws n 2 ≤ f + 1) :
    side ws e (f + 1) n o = .ok (un t (place ws e n), n + wn l) := by
  obtain ⟨q, p, h1, h2, h3⟩ := hf.keys hk
  have hb := h2.begins h1
  rw [side.eq_def]
  simp only [hb.1, hb.2.1, Bool.true_eq_false, Bool.false_eq_true, or_self, if_false]
  exact h ws e n o f r hk ho (by unfold need at *; omega)
theorem behindU_conj {s : List UInt8} {a f o m : Nat} {u : U} {t : T} {at_ : Int} (hs : s ≠ [96]) (hw : ws[n]? = some ⟨6, s, a⟩) (hg : u.gerund.isSome = true → s = [64, 46]) (hc : conjunction ws e f ⟨6, s, a⟩ (n + 1) o u = .ok (t, m)) :
    behindU ws e (f + 1) at_ n o u = behindU ws e f at_ m o (un t at_) := by
  rw [behindU.eq_def]
  simp only [hw]
  rw [if_neg (by simp [hs]), if_neg (fun h => h.2 (hg h.1)), if_neg (by decide), hc]
  rfl
theorem behindU_adv {k : Int} {s : List UInt8} {a f o : Nat} {t : T} {at_ b : Int} (hk : (k = 24 ∧ s = [47]) ∨ (k = 25 ∧ s = [92]) ∨ (k = 26 ∧ s = [92, 46]) ∨ (k = 27 ∧ s = [126])) (hw : ws[n]? = some ⟨5, s, a⟩) (hc : T.cls t.kind = 3) :
    behindU ws e (f + 1) at_ n o (un t b) = behindU ws e f at_ (n + 1) o (un (made k [t]) at_) := by
  rw [behindU.eq_def]
  simp only [hw]
  rw [if_neg (by simp), if_neg (by simp), if_pos trivial]
  unfold adverb
  rw [(un_verb hc).1]
  rcases hk with ⟨rfl, rfl⟩ | ⟨rfl, rfl⟩ | ⟨rfl, rfl⟩ | ⟨rfl, rfl⟩ <;> simp [R.andThen]
theorem conj_read {k : Int} (hk : 28 ≤ k ∧ k ≤ 38) : ∃ s, wl (Pp.mark k) = [(6, s)] ∧ s ≠ [96] ∧ ∀ {f o m a : Nat} {u v : T} {b c : Int}, T.cls u.kind = 3 → T.cls v.kind = 3 → side ws e f n o = .ok (un v c, m) →
    conjunction ws e (f + 2) ⟨6, s, a⟩ n o (un u b) = .ok (made k [u, v], m) := by
  have hbh : ∀ {f o m : Nat} {v : T} {c : Int}, T.cls v.kind = 3 → side ws e f n o = .ok (un v c, m) → behind ws e (f + 1) n o = .ok (v, m) := by
    intro f o m v c hv hs
    rw [behind.eq_def]
    simp only [hs, R.andThen, (un_verb hv).1, if_true]
  have hei : ∀ {f o m : Nat} {u v : T} {w : W} {b c kv ko : Int}, T.cls u.kind = 3 → T.cls v.kind = 3 → side ws e f n o = .ok (un v c, m) → either ws e (f + 1) w n o (un u b) kv ko = .ok (made kv [u, v], m) := by
    intro f o m u v w b c kv ko hu hv hs
    rw [either.eq_def]
    simp only [hs, R.andThen, (un_verb hv).1, (un_verb hu).1, Bool.true_eq_false, if_false, if_true]
  have hop : ∀ {u : T} {b : Int}, T.cls u.kind = 3 → (un u b).operand = false := by
    intro u b hu; simp [U.operand, (un_verb hu).2]
  rcases conj_cases hk with rfl | rfl | rfl | rfl | rfl | rfl | rfl | rfl | rfl | rfl | rfl <;>
    refine ⟨_, rfl, by decide, fun {f o m a u v b c} hu hv hs => ?_⟩ <;> rw [conjunction.eq_def] <;>
    simp only [bothOf, reduceIte, List.cons.injEq, reduceCtorEq, and_false, and_true, (un_verb hu).1, Bool.true_eq_false, hop hu, Bool.false_eq_true] <;>
    simp [hbh hv hs, hei hu hv hs, R.andThen]
end
end Pp
end Go.Proofs.YtboondbognbnnaaGreatDoor

namespace Go.Proofs.YtboondbognbnnaaGreatDoor
namespace Pp
open Pz
/-! numbers' texts -/
theorem dig_text {n : Int} (h : inRange n = true) : dig n ≠ [95] ∧ (∀ c ∈ dig n, c ≠ 32) := by
  obtain ⟨_, _, _, _, _, h6, _⟩ := numText (r := []) (p := dig n) (.inr ⟨n, h, rfl⟩) rfl
  refine ⟨fun e => ?_, h6⟩
  unfold dig at e
  split at e
  · obtain ⟨_, _, c, q, h3, _⟩ := dd n.natAbs
    rw [h3] at e; cases e
  · obtain ⟨h1, _, c, q, h3, _⟩ := dd n.toNat
    rw [e] at h1
    have := h1 95 (by simp)
    exact absurd this (by decide)
theorem split_more (rank : Bool) : ∀ (l : List Int) (p : List UInt8), (∀ n ∈ l, inRange n = true) → (∀ c ∈ p, c ≠ 32) → splitBlank (p ++ more rank l) = p :: l.map (one rank)
  | [], p, _, hp => by simpa [more] using splitBlank_plain p hp
  | n :: l, p, hl, hp => by
    simp only [more, List.cons_append]
    rw [splitBlank_app, splitBlank_plain p hp]
    have ho : ∀ c ∈ one rank n, c ≠ 32 := by
      unfold one
      split
      · decide
      · exact (dig_text (hl n (by simp))).2
    rw [split_more rank l (one rank n) (fun m hm => hl m (by simp [hm])) ho]
    rfl
theorem split_nums (rank : Bool) {l : List Int} (hne : l ≠ []) (hl : ∀ n ∈ l, inRange n = true) : splitBlank (nums rank l) = l.map (one rank) := by
  cases l with
  | nil => exact absurd rfl hne
  | cons n l =>
    have ho : ∀ c ∈ one rank n, c ≠ 32 := by
      unfold one
      split
      · decide
      · exact (dig_text (hl n (by simp))).2
    exact split_more rank l (one rank n) (fun m hm => hl m (by simp [hm])) ho
theorem nums_back {l : List Int} (hl : ∀ n ∈ l, inRange n = true) : (l.map (one false)).contains [95] = false ∧ (l.map (one false)).map numberOf = l := by
  constructor
  · rw [List.contains_eq_mem, decide_eq_false_iff_not]
    intro h
    obtain ⟨n, hn, e⟩ := List.mem_map.1 h
    exact (dig_text (hl n hn)).1 (by simpa [one] using e)
  · rw [List.map_map]
    conv => rhs; rw [← List.map_id l]
    exact List.map_congr_left fun n hn => by simp [one, numberOf_dig]
theorem ranks_back {l : List Int} (hl : ∀ n ∈ l, inRange n = true) : (l.map (one true)).map (fun s => if s = [95] then 64 else numberOf s) = l := by
  rw [List.map_map]
  conv => rhs; rw [← List.map_id l]
  refine List.map_congr_left fun n hn => ?_
  simp only [Function.comp, one, Bool.true_and, beq_iff_eq, id]
  by_cases h : n = 64
  · simp [h]
  · simp [h, (dig_text (hl n hn)).1, numberOf_dig]
theorem constant_read {sh a : List Int} {p : Nat} (h : T.literal sh a = true) (hl : ∀ n ∈ a, inRange n = true) : constant ⟨1, nums false a, p⟩ = .ok (.mk 1 E 0 sh a []) := by
  unfold constant
  dsimp only
  rw [split_nums false (lit_ne h) hl, (nums_back hl).1, (nums_back hl).2]
  simp only [Bool.false_eq_true, if_false]
  congr 2
  unfold T.literal at h
  split at h
  · simp only [beq_iff_eq] at h; simp [h]
  · simp only [Bool.and_eq_true, decide_eq_true_eq] at h
    rw [if_pos (by omega), h.2]
  · cases h
theorem bytes_txt (s : ByteArray) : Pz.bytes (txt s) = s := by obtain ⟨⟨l⟩⟩ := s; rfl
section
variable {ws : List W} {e n : Nat}
theorem prim_num {sh a : List Int} (h : T.literal sh a = true) (hl : ∀ n ∈ a, inRange n = true) (d : Nat) : PrimOf (.mk 1 E 0 sh a []) [.w 1 (nums false a)] d := by
  intro ws e n o f r hk ho hn
  obtain ⟨p, hw, hp, hk1, hlt⟩ := keys_cons (e := e) hk
  obtain ⟨g, rfl⟩ : ∃ g, f = g + 1 := ⟨f - 1, by unfold need at hn; omega⟩
  rw [primary.eq_def]
  simp only [hw, if_true, constant_read h hl, R.andThen, hp]
  rfl
theorem prim_nam (s : ByteArray) (d : Nat) : PrimOf (.mk 2 s 0 [] [] []) [.w 2 (txt s)] d := by
  intro ws e n o f r hk ho hn
  obtain ⟨p, hw, hp, hk1, hlt⟩ := keys_cons (e := e) hk
  obtain ⟨g, rfl⟩ : ∃ g, f = g + 1 := ⟨f - 1, by unfold need at hn; omega⟩
  rw [primary.eq_def]
  simp [hw, R.andThen, hp, bytes_txt, wn, wl]
theorem prim_name (s : ByteArray) (d : Nat) : PrimOf (.mk 21 s 0 [] [] []) [.w 3 (txt s)] d := by
  intro ws e n o f r hk ho hn
  obtain ⟨p, hw, hp, hk1, hlt⟩ := keys_cons (e := e) hk
  obtain ⟨g, rfl⟩ : ∃ g, f = g + 1 := ⟨f - 1, by unfold need at hn; omega⟩
  rw [primary.eq_def]
  simp [hw, R.andThen, hp, bytes_txt, wn, wl]
theorem prim_prim (s : ByteArray) (d : Nat) : PrimOf (.mk 20 s 0 [] [] []) [.w 4 (txt s)] d := by
  intro ws e n o f r hk ho hn
  obtain ⟨p, hw, hp, hk1, hlt⟩ := keys_cons (e := e) hk
  obtain ⟨g, rfl⟩ : ∃ g, f = g + 1 := ⟨f - 1, by unfold need at hn; omega⟩
  rw [primary.eq_def]
  simp [hw, R.andThen, hp, bytes_txt, wn, wl]
/-! conjunctions -/
theorem behind_prim {t : T} {l : List Pc} {d : Nat} (h : PrimOf t l d) (hf : First l) (hc : T.cls t.kind = 3) {o f : Nat} {r : List Key} (hk : keys ws n = wl l ++ r) (ho : o + d ≤ 512) (hn : need ws n 3 ≤ f + 2) :
    behind ws e (f + 2) n o = .ok (t, n + wn l) := by
  rw [behind.eq_def]
  have := side_prim (e := e) (f := f) (o := o) h hf hk ho (by simp only [need, wn] at *; omega)
  simp only [this, R.andThen, (un_verb hc).1, if_true]
theorem un_operand {x : T} {a : Int} (hk : x.kind = 1 ∨ x.kind = 2) : (un x a).operand = true ∧ (un x a).verb = false := by
  rcases hk with h | h <;> simp [U.operand, U.noun, U.verb, h, T.cls]
theorem conj39 {f o m a : Nat} {x v : T} {b : Int} (hk : x.kind = 1 ∨ x.kind = 2) (hb : behind ws e f n o = .ok (v, m)) : conjunction ws e (f + 1) ⟨6, [38], a⟩ n o (un x b) = .ok (made 39 [x, v], m) := by
  rw [conjunction.eq_def]
  simp [bothOf, (un_operand hk).1, hb, R.andThen]
theorem either_op {f o m : Nat} {u x : T} {w : W} {b c kv ko : Int} (hu : T.cls u.kind = 3) (hx : x.kind = 1 ∨ x.kind = 2) (hs : side ws e f n o = .ok (un x c, m)) : either ws e (f + 1) w n o (un u b) kv ko = .ok (made ko [u, x], m) := by
  rw [either.eq_def]
  simp only [hs, R.andThen, (un_verb hu).1, (un_operand hx).1, (un_operand hx).2, Bool.true_eq_false, Bool.false_eq_true, if_false]
theorem conj40 {k : Int} (hk : k = 40 ∨ k = 41) : ∃ s, wl (Pp.mark k) = [(6, s)] ∧ s ≠ [96] ∧ ∀ {f o m a : Nat} {u x : T} {b c : Int}, T.cls u.kind = 3 → (x.kind = 1 ∨ x.kind = 2) → side ws e f n o = .ok (un x c, m) →
    conjunction ws e (f + 2) ⟨6, s, a⟩ n o (un u b) = .ok (made k [u, x], m) := by
  rcases hk with rfl | rfl <;> refine ⟨_, rfl, by decide, fun {f o m a u x b c} hu hx hs => ?_⟩ <;> rw [conjunction.eq_def]
  · have : (un u b).operand = false := by simp [U.operand, (un_verb hu).2]
    simp [bothOf, this, either_op hu hx hs]
  · simp [bothOf, either_op hu hx hs]
theorem conj22 {f o a : Nat} {x : T} {b : Int} {a' : Nat} (hk : x.kind = 1 ∨ x.kind = 2) (hw : ws[n]? = some ⟨1, [95], a'⟩) : conjunction ws e (f + 1) ⟨6, [34], a⟩ n o (un x b) = .ok (made 22 [x], n + 1) := by
  rw [conjunction.eq_def]
  simp [bothOf, (un_operand hk).1, hw]
theorem conj42 {f o a : Nat} {u : T} {b : Int} {a' : Nat} {l : List Int} (hu : T.cls u.kind = 3) (hne : l ≠ []) (hl : ∀ n ∈ l, inRange n = true) (hw : ws[n]? = some ⟨1, nums true l, a'⟩) :
    conjunction ws e (f + 1) ⟨6, [34], a⟩ n o (un u b) = .ok (.mk 42 E 0 [(l.length : Int)] l [u], n + 1) := by
  rw [conjunction.eq_def]
  have : (un u b).operand = false := by simp [U.operand, (un_verb hu).2]
  simp [bothOf, this, (un_verb hu).1, hw, split_nums true hne hl, -List.map_map, ranks_back hl]
theorem conj43 {f o m a : Nat} {s : T} {u : U} (hb : behind ws e f n o = .ok (s, m)) (hg : u.gerund = none) (hu : u.verb = true) : conjunction ws e (f + 1) ⟨6, [64, 46], a⟩ n o u = .ok (made 43 [s, u.t], m) := by
  rw [conjunction.eq_def]
  simp [bothOf, hg, hu, hb, R.andThen]
theorem conj43g {f o m a : Nat} {s : T} {u : U} {l : List T} (hb : behind ws e f n o = .ok (s, m)) (hg : u.gerund = some l) : conjunction ws e (f + 1) ⟨6, [64, 46], a⟩ n o u = .ok (made 43 (s :: l), m) := by
  rw [conjunction.eq_def]
  simp [bothOf, hg, hb, R.andThen]
end
/-! nouns -/
def FromOf (x : T) (l : List Pc) (d : Nat) : Prop := ∀ (ws : List W) (e n o f : Nat) (r : List Key), keys ws n = wl l ++ r → End r → o + d ≤ 512 → need ws n 4 ≤ f + 1 →
  ∃ u n1 us f', unit ws e f n o = .ok (u, n1) ∧ tie ws n1 = false ∧ Sp x (u :: us) ∧ need ws (n + wn l) 4 ≤ f' ∧ ∀ l', fromU ws e f n1 o (l' ++ [u]) = fromU ws e f' (n + wn l) o (l' ++ u :: us)
def NounOf (x : T) (l : List Pc) (d : Nat) : Prop := ∀ (ws : List W) (e n o f : Nat) (r : List Key), keys ws n = wl l ++ r → End r → o + d ≤ 512 → need ws n 6 ≤ f → Pz.noun ws e f n o = .ok (x, n + wn l)
theorem FromOf.mono {t : T} {l : List Pc} {d d' : Nat} (h : FromOf t l d) (hd : d ≤ d') : FromOf t l d' := fun ws e n o f r hk hr ho hn => h ws e n o f r hk hr (by omega) hn
theorem NounOf.mono {t : T} {l : List Pc} {d d' : Nat} (h : NounOf t l d) (hd : d ≤ d') : NounOf t l d' := fun ws e n o f r hk hr ho hn => h ws e n o f r hk hr (by omega) hn
theorem from_one {x : T} {l : List Pc} {d : Nat} (h : PrimOf x l d) (hf : First l) (hc : T.cls x.kind = 1) : FromOf x l d := by
  intro ws e n o f r hk hr ho hn
  obtain ⟨q, p, h1, h2, h3⟩ := hf.keys hk
  have hp := hf.pos
  have hu := (h.unit hf).whole (e := e) (o := o) (f := f) hk hr.rest ho (by simp only [need, wn] at *; omega)
  have hk2 := keys_skip _ _ hk
  exact ⟨_, _, [], f, hu, (hr.begins hk2).2, .one x _ rfl (un_noun hc).1, by simp only [need, wn] at *; omega, fun l' => rfl⟩
theorem from_mon {v x : T} {lv lx : List Pc} {d : Nat} (hv : UnitOf v lv d) (fv : First lv) (cv : T.cls v.kind = 3) (hx : FromOf x lx d) (fx : First lx) : FromOf (made 3 [v, x]) (lv ++ .b :: lx) d := by
  intro ws e n o f r hk hr ho hn
  simp only [wl_append, wl, List.append_assoc] at hk
  obtain ⟨q, p, h1, h2, h3⟩ := fv.keys hk
  have hp := fv.pos
  have hk2 := keys_skip _ _ hk
  obtain ⟨q2, p2, h4, h5, h6⟩ := fx.keys hk2
  have hpx := fx.pos
  have hrest : Rest (wl lx ++ r) := by
    obtain ⟨q', r', e1, e2⟩ := fx
    rw [e1]; exact e2.rest _
  have hu := hv.whole (e := e) (o := o) (f := f) hk hrest ho (by simp only [need, wn] at *; omega)
  obtain ⟨g, rfl⟩ : ∃ g, f = g + 1 := ⟨f - 1, by unfold need at hn; omega⟩
  obtain ⟨u, n1, us, f', i1, i2, i3, i4, i5⟩ := hx ws e (n + wn lv) o g r hk2 hr ho (by simp only [need, wn] at *; omega)
  have hl : n + wn (lv ++ .b :: lx) = n + wn lv + wn lx := by simp [wn, wl_append, wl]; omega
  rw [hl]
  refine ⟨_, _, u :: us, f', hu, (h5.begins h4).2.2, .mon v x _ _ rfl (un_verb cv).1 (un_verb cv).2 i3, i4, fun l' => ?_⟩
  rw [fromU_go (h5.begins h4).1 i1, i5]
  simp
theorem from_dy {v x y : T} {lx lv ly : List Pc} {d : Nat} (hx : PrimOf x lx d) (fx : First lx) (cx : T.cls x.kind = 1) (hv : UnitOf v lv d) (fv : First lv) (cv : T.cls v.kind = 3) (hy : FromOf y ly d) (fy : First ly) :
    FromOf (made 4 [v, x, y]) (lx ++ .b :: lv ++ .b :: ly) d := by
  intro ws e n o f r hk hr ho hn
  simp only [wl_append, wl, List.append_assoc, List.cons_append] at hk
  obtain ⟨q, p, h1, h2, h3⟩ := fx.keys hk
  have hp := fx.pos
  have hpv := fv.pos
  have hpy := fy.pos
  have hk2 := keys_skip _ _ hk
  obtain ⟨q2, p2, h4, h5, h6⟩ := fv.keys hk2
  have hk3 := keys_skip _ _ hk2
  obtain ⟨q3, p3, h7, h8, h9⟩ := fy.keys hk3
  have hrest : Rest (wl lv ++ (wl ly ++ r)) := by
    obtain ⟨q', r', e1, e2⟩ := fv
    rw [e1]; exact e2.rest _
  have hrest2 : Rest (wl ly ++ r) := by
    obtain ⟨q', r', e1, e2⟩ := fy
    rw [e1]; exact e2.rest _
  have hu := (hx.unit fx).whole (e := e) (o := o) (f := f) hk hrest ho (by simp only [need, wn] at *; omega)
  obtain ⟨g, rfl⟩ : ∃ g, f = g + 2 := ⟨f - 2, by unfold need at hn; omega⟩
  have hu2 := hv.whole (e := e) (o := o) (f := g + 1) hk2 hrest2 ho (by simp only [need, wn] at *; omega)
  obtain ⟨u, n1, us, f', i1, i2, i3, i4, i5⟩ := hy ws e (n + wn lx + wn lv) o g r hk3 hr ho (by simp only [need, wn] at *; omega)
  have hl : n + wn (lx ++ .b :: lv ++ .b :: ly) = n + wn lx + wn lv + wn ly := by simp [wn, wl_append, wl]; omega
  rw [hl]
  refine ⟨_, _, _, f', hu, (h5.begins h4).2.2, (.dy v x y (un x (place ws e n)) (un v (place ws e (n + wn lx))) (u :: us) rfl (un_noun cx).1 rfl (un_verb cv).1 (un_verb cv).2 i3), i4, fun l' => ?_⟩
  rw [fromU_go (h5.begins h4).1 hu2, fromU_go (h8.begins h7).1 i1, i5]
  simp
theorem bracket_noun {x : T} {l : List Pc} {d : Nat} (h : FromOf x l d) (hf : First l) : PrimOf x (.w 7 [40] :: l ++ [.w 7 [41]]) (d + 1) := by
  intro ws e n o f r hk ho hn
  simp only [List.cons_append, wl, wl_append, List.append_assoc, List.nil_append] at hk
  obtain ⟨a, hw, hp, hk1, hlt⟩ := keys_cons (e := e) hk
  obtain ⟨q, p, h1, h2, h3⟩ := hf.keys hk1
  obtain ⟨g, rfl⟩ : ∃ g, f = g + 3 := ⟨f - 3, by unfold need at hn; omega⟩
  have hend : End ((7, [41]) :: r) := End.cons _ (by decide)
  obtain ⟨u, n1, us, f', i1, i2, i3, i4, i5⟩ := h ws e (n + 1) (o + 1) g _ hk1 hend (by omega) (by simp only [need, wn] at *; omega)
  have hk2 := keys_skip _ _ hk1
  obtain ⟨f2, rfl⟩ : ∃ f2, f' = f2 + 1 := ⟨f' - 1, by unfold need at i4; omega⟩
  have hfr : fromU ws e g n1 (o + 1) [u] = .ok (x, n + 1 + wn l) := by
    have := i5 []
    simp only [List.nil_append] at this
    rw [this]
    exact fromU_noun hend hk2 i3
  rw [primary_bracket (e := e) (o := o) hw rfl rfl (by omega) (h2.begins h1).1 i1 i2 hfr hk2, hp]
  simp [wn, wl, wl_append]; omega
theorem noun_of {x : T} {l : List Pc} {d : Nat} (h : FromOf x l d) (hf : First l) (hc : T.cls x.kind = 1) : NounOf x l d := by
  intro ws e n o f r hk hr ho hn
  obtain ⟨q, p, h1, h2, h3⟩ := hf.keys hk
  obtain ⟨g, rfl⟩ : ∃ g, f = g + 3 := ⟨f - 3, by unfold need at hn; omega⟩
  obtain ⟨u, n1, us, f', i1, i2, i3, i4, i5⟩ := h ws e n o g r hk hr ho (by simp only [need, wn] at *; omega)
  have hk2 := keys_skip _ _ hk
  obtain ⟨f2, rfl⟩ : ∃ f2, f' = f2 + 1 := ⟨f' - 1, by unfold need at i4; omega⟩
  rw [Pz.noun.eq_def]
  simp only []
  rw [Pz.phrase.eq_def]
  simp only [(h2.begins h1).1, Bool.true_eq_false, if_false]
  rw [fromU_go (h2.begins h1).1 i1]
  have := i5 []
  rw [this, List.nil_append, fromU_noun hr hk2 i3]
  simp only [R.andThen, hc, if_true]
end Pp
end Go.Proofs.YtboondbognbnnaaGreatDoor

namespace Go.Proofs.YtboondbognbnnaaGreatDoor
namespace Pp
open Pz
/-- the keys of a list's parts, each behind a sign -/
def tailK (q : Key) (f : T → List Pc) : List T → List Key
  | [] => []
  | t :: l => q :: wl (f t) ++ tailK q f l
theorem wl_ors : ∀ (x : T) (l : List T), wl (ors (x :: l)) = wl (noun x) ++ tailK (7, [111, 114, 46]) noun l
  | x, [] => by simp [ors, tailK]
  | x, y :: l => by simp [ors, tailK, wl_append, wl, wl_ors y l]
theorem wl_ties : ∀ (x : T) (l : List T), wl (ties (x :: l)) = wl (phrase x) ++ tailK (6, [96]) phrase l
  | x, [] => by simp [ties, tailK]
  | x, y :: l => by simp [ties, tailK, wl_append, wl, wl_ties y l]
theorem wl_sents : ∀ (x : T) (l : List T), wl (sents (x :: l)) = wl (sentence x) ++ tailK (7, [59]) sentence l
  | x, [] => by simp [sents, tailK, wl_append, wl]
  | x, y :: l => by simp [sents, tailK, wl_append, wl, wl_sents y l]
section
variable {ws : List W} {e n : Nat}
theorem picks_all {w : W} : ∀ (l acc : List T) {n o f d : Nat} {r : List Key}, (∀ x ∈ l, NounOf x (noun x) d) → keys ws n = tailK (7, [111, 114, 46]) noun l ++ (7, [101, 110, 100, 46]) :: r → o + d ≤ 512 → need ws n 1 ≤ f →
    picks ws e f w n o acc = .ok (un (made 5 (acc ++ l)) w.at_, n + (tailK (7, [111, 114, 46]) noun l).length + 1)
  | [], acc, n, o, f, d, r, _, hk, ho, hn => by
    obtain ⟨g, rfl⟩ : ∃ g, f = g + 1 := ⟨f - 1, by unfold need at hn; omega⟩
    simp only [tailK, List.nil_append] at hk
    rw [picks.eq_def]
    simp only [sees_key hk, takes_key (k := 7) hk]
    simp [R.andThen, tailK]
  | x :: l, acc, n, o, f, d, r, hl, hk, ho, hn => by
    obtain ⟨g, rfl⟩ : ∃ g, f = g + 1 := ⟨f - 1, by unfold need at hn; omega⟩
    simp only [tailK, List.cons_append, List.append_assoc] at hk
    obtain ⟨a, hw, hp, hk1, hlt⟩ := keys_cons (e := e) hk
    have hr : End (tailK (7, [111, 114, 46]) noun l ++ (7, [101, 110, 100, 46]) :: r) := by
      cases l with
      | nil => exact End.cons _ (by decide)
      | cons y l => exact End.cons _ (by decide)
    have h1 := hl x (by simp) ws e (n + 1) o g _ hk1 hr ho (by unfold need at *; omega)
    have hk2 := keys_skip _ _ hk1
    have h2 := picks_all l (acc ++ [x]) (w := w) (f := g) (fun y hy => hl y (by simp [hy])) hk2 ho (by unfold need at *; omega)
    rw [picks.eq_def]
    simp only [sees_key hk, h1, R.andThen, wn, h2]
    simp [tailK]; omega
def SentOf (s : T) (l : List Pc) (d : Nat) : Prop := ∀ (ws : List W) (e n o f : Nat) (r : List Key), keys ws n = wl l ++ r → End r → o + d ≤ 512 → need ws n 7 ≤ f → Pz.sentence ws e f n o = .ok (s, n + wn l)
theorem SentOf.mono {t : T} {l : List Pc} {d d' : Nat} (h : SentOf t l d) (hd : d ≤ d') : SentOf t l d' := fun ws e n o f r hk hr ho hn => h ws e n o f r hk hr (by omega) hn
/-- it begins as a sentence does -/
def FS (q : Key) : Prop := FK q ∨ q = (7, [105, 102, 46]) ∨ q = (7, [119, 104, 105, 108, 101, 46])
def bodyEnds : List (List UInt8) := [[125, 125], [101, 108, 115, 101, 46], [101, 110, 100, 46]]
theorem bodies_all : ∀ (l acc : List T) {n o f d : Nat} {s : List UInt8} {r : List Key}, (∀ x ∈ l, SentOf x (sentence x) d) → keys ws n = tailK (7, [59]) sentence l ++ (7, s) :: r → s ∈ bodyEnds → o + d ≤ 512 → need ws n 1 ≤ f →
    bodies ws e f n o acc = .ok (made 14 (acc ++ l), n + (tailK (7, [59]) sentence l).length)
  | [], acc, n, o, f, d, s, r, _, hk, hs, ho, hn => by
    obtain ⟨g, rfl⟩ : ∃ g, f = g + 1 := ⟨f - 1, by unfold need at hn; omega⟩
    simp only [tailK, List.nil_append] at hk
    rw [bodies.eq_def]
    simp only [sees_key hk]
    simp only [bodyEnds, List.mem_cons, List.not_mem_nil, or_false] at hs
    rcases hs with rfl | rfl | rfl <;> simp [tailK]
  | x :: l, acc, n, o, f, d, s, r, hl, hk, hs, ho, hn => by
    obtain ⟨g, rfl⟩ : ∃ g, f = g + 1 := ⟨f - 1, by unfold need at hn; omega⟩
    simp only [tailK, List.cons_append, List.append_assoc] at hk
    obtain ⟨a, hw, hp, hk1, hlt⟩ := keys_cons (e := e) hk
    have hr : End (tailK (7, [59]) sentence l ++ (7, s) :: r) := by
      cases l with
      | nil => exact End.cons _ (by simp only [bodyEnds, List.mem_cons, List.not_mem_nil, or_false] at hs; rcases hs with rfl | rfl | rfl <;> decide)
      | cons y l => exact End.cons _ (by decide)
    have h1 := hl x (by simp) ws e (n + 1) o g _ hk1 hr ho (by unfold need at *; omega)
    have hk2 := keys_skip _ _ hk1
    have h2 := bodies_all l (acc ++ [x]) (f := g) (fun y hy => hl y (by simp [hy])) hk2 hs ho (by unfold need at *; omega)
    rw [bodies.eq_def]
    simp only [sees_key hk, h1, R.andThen, wn, h2]
    simp [tailK]; omega
def BodyOf (b : T) (l : List Pc) (d : Nat) : Prop := ∀ (ws : List W) (e n o f : Nat) (s : List UInt8) (r : List Key), keys ws n = wl l ++ (7, s) :: r → s ∈ bodyEnds → o + d ≤ 512 → need ws n 8 ≤ f → Pz.body ws e f n o = .ok (b, n + wn l)
theorem BodyOf.mono {t : T} {l : List Pc} {d d' : Nat} (h : BodyOf t l d) (hd : d ≤ d') : BodyOf t l d' := fun ws e n o f s r hk hr ho hn => h ws e n o f s r hk hr (by omega) hn
theorem body_of {l : List T} {d : Nat} (hl : ∀ x ∈ l, SentOf x (sentence x) d ∧ ∃ q r, wl (sentence x) = q :: r ∧ FS q) : BodyOf (made 14 l) (sents l) d := by
  intro ws e n o f s r hk hs ho hn
  obtain ⟨g, rfl⟩ : ∃ g, f = g + 1 := ⟨f - 1, by unfold need at hn; omega⟩
  rw [Pz.body.eq_def]
  cases l with
  | nil =>
    simp only [sents, wl, List.nil_append] at hk
    simp only [sees_key hk]
    simp only [bodyEnds, List.mem_cons, List.not_mem_nil, or_false] at hs
    rcases hs with rfl | rfl | rfl <;> simp [sents, wn, wl]
  | cons x l =>
    rw [wl_sents, List.append_assoc] at hk
    obtain ⟨hx, q, p, h1, h2⟩ := hl x (by simp)
    have hk0 := hk
    rw [h1, List.cons_append] at hk0
    obtain ⟨k, t⟩ := q
    obtain ⟨a, hw, hp, _, hlt⟩ := keys_cons (e := e) hk0
    have hno : (sees ws n [125, 125] || sees ws n [101, 108, 115, 101, 46] || sees ws n [101, 110, 100, 46]) = false := by
      rw [sees_key hk0, sees_key hk0, sees_key hk0]
      rcases h2 with h2 | h2 | h2
      · rcases h2 with h2 | ⟨h2, h3⟩
        · have : k ≠ 7 := by have : k ≤ 4 := h2.2; omega
          simp [this]
        · simp only [List.mem_cons, List.not_mem_nil, or_false] at h3
          have h2 : k = 7 := h2
          subst h2
          rcases h3 with rfl | rfl | rfl | rfl <;> decide
      · cases h2; decide
      · cases h2; decide
    have hr : End (tailK (7, [59]) sentence l ++ (7, s) :: r) := by
      cases l with
      | nil => exact End.cons _ (by simp only [bodyEnds, List.mem_cons, List.not_mem_nil, or_false] at hs; rcases hs with rfl | rfl | rfl <;> decide)
      | cons y l => exact End.cons _ (by decide)
    have i1 := hx ws e n o g _ hk hr ho (by unfold need at *; omega)
    have hk2 := keys_skip _ _ hk
    have hlen : 1 ≤ (wl (sentence x)).length := by rw [h1]; simp
    have i2 := bodies_all l [x] (e := e) (f := g) (fun y hy => (hl y (by simp [hy])).1) hk2 hs ho (by unfold need at *; omega)
    simp only [hno, Bool.false_eq_true, if_false, i1, R.andThen, wn, i2]
    simp [wl_sents]; omega
/-- the second word is not '=.' -/
def NS (l : List Pc) : Prop := ∀ (s : List UInt8) (q r : List Key), End r → wl l ++ r = (2, s) :: q → ∀ p, q ≠ (7, [61, 46]) :: p
theorem sent_say {x : T} {l : List Pc} {d : Nat} (h : NounOf x l d) (hf : First l) (hs : NS l) : SentOf (made 10 [x]) l d := by
  intro ws e n o f r hk hr ho hn
  obtain ⟨g, rfl⟩ : ∃ g, f = g + 1 := ⟨f - 1, by unfold need at hn; omega⟩
  obtain ⟨q, p, h1, h2, h3⟩ := hf.keys hk
  have hx := h ws e n o g r hk hr ho (by unfold need at *; omega)
  obtain ⟨k, t⟩ := q
  obtain ⟨a, hw, hp, hk1, hlt⟩ := keys_cons (e := e) h1
  have hno : (7 == k && [105, 102, 46] == t) = false ∧ (k == 7 && t == [105, 102, 46]) = false ∧ (k == 7 && t == [119, 104, 105, 108, 101, 46]) = false := by
    rcases h2 with h2 | ⟨h2, h4⟩
    · have : k ≠ 7 := by have : k ≤ 4 := h2.2; omega
      simp [this, this.symm]
    · simp only [List.mem_cons, List.not_mem_nil, or_false] at h4
      have h2 : k = 7 := h2
      subst h2
      rcases h4 with rfl | rfl | rfl | rfl <;> decide
  have hset : ¬(k = 2 ∧ sees ws (n + 1) [61, 46] = true) := by
    rintro ⟨rfl, h5⟩
    cases p with
    | nil => rw [sees_nil hk1] at h5; cases h5
    | cons c p =>
      obtain ⟨k2, t2⟩ := c
      rw [sees_key hk1] at h5
      simp only [Bool.and_eq_true, beq_iff_eq] at h5
      obtain ⟨rfl, rfl⟩ := h5
      rw [hk] at h1
      exact hs t _ r hr h1 p rfl
  rw [Pz.sentence.eq_def]
  simp only [sees_key h1, hno.2.1, hno.2.2, Bool.false_eq_true, if_false, hw]
  rw [if_neg hset, hx]; rfl
theorem sent_set {x : T} {l : List Pc} {d : Nat} (s : ByteArray) (h : NounOf x l d) : SentOf (.mk 11 s 0 [] [] [x]) (.w 2 (txt s) :: .b :: .w 7 [61, 46] :: .b :: l) d := by
  intro ws e n o f r hk hr ho hn
  obtain ⟨g, rfl⟩ : ∃ g, f = g + 1 := ⟨f - 1, by unfold need at hn; omega⟩
  simp only [wl, List.cons_append] at hk
  obtain ⟨a, hw, hp, hk1, hlt⟩ := keys_cons (e := e) hk
  obtain ⟨a2, hw2, hp2, hk2, hlt2⟩ := keys_cons (e := e) hk1
  have hx := h ws e (n + 1 + 1) o g r hk2 hr ho (by unfold need at *; omega)
  rw [Pz.sentence.eq_def]
  simp only [sees_key hk, sees_key hk1, hw]
  simp only [show n + 2 = n + 1 + 1 from rfl, hx, bytes_txt]
  simp [R.andThen, wn, wl]; omega
theorem sent_cond {x b c : T} {l lb lc : List Pc} {d : Nat} (h : NounOf x l d) (hb : BodyOf b lb d) (hc : BodyOf c lc d) :
    SentOf (made 12 [x, b, c]) (.w 7 [105, 102, 46] :: .b :: l ++ .b :: .w 7 [100, 111, 46] :: .b :: lb ++ .w 7 [101, 108, 115, 101, 46] :: .b :: lc ++ [.w 7 [101, 110, 100, 46]]) (d + 1) := by
  intro ws e n o f r hk hr ho hn
  obtain ⟨g, rfl⟩ : ∃ g, f = g + 1 := ⟨f - 1, by unfold need at hn; omega⟩
  simp only [wl, wl_append, List.cons_append, List.append_assoc, List.nil_append] at hk
  obtain ⟨a, hw, hp, hk1, hlt⟩ := keys_cons (e := e) hk
  have hx := h ws e (n + 1) (o + 1) g _ hk1 (End.cons _ (by decide)) (by omega) (by unfold need at *; omega)
  have hk2 := keys_skip _ _ hk1
  obtain ⟨a2, hw2, hp2, hk3, hlt2⟩ := keys_cons (e := e) hk2
  have i1 := hb ws e _ (o + 1) g _ _ hk3 (by decide) (by omega) (by unfold need at *; omega)
  have hk4 := keys_skip _ _ hk3
  obtain ⟨a3, hw3, hp3, hk5, hlt3⟩ := keys_cons (e := e) hk4
  have i2 := hc ws e _ (o + 1) g _ _ hk5 (by decide) (by omega) (by unfold need at *; omega)
  have hk6 := keys_skip _ _ hk5
  rw [Pz.sentence.eq_def]
  simp only [sees_key hk, opens_le (ws := ws) (e := e) (n := n) (o := o) (by omega), R.andThen, hx, wn, takes_key (k := 7) hk2, i1, sees_key hk4, i2, takes_key (k := 7) hk6]
  simp [wl, wl_append]; omega
theorem sent_loop {x b : T} {l lb : List Pc} {d : Nat} (h : NounOf x l d) (hb : BodyOf b lb d) :
    SentOf (made 13 [x, b]) (.w 7 [119, 104, 105, 108, 101, 46] :: .b :: l ++ .b :: .w 7 [100, 111, 46] :: .b :: lb ++ [.w 7 [101, 110, 100, 46]]) (d + 1) := by
  intro ws e n o f r hk hr ho hn
  obtain ⟨g, rfl⟩ : ∃ g, f = g + 1 := ⟨f - 1, by unfold need at hn; omega⟩
  simp only [wl, wl_append, List.cons_append, List.append_assoc, List.nil_append] at hk
  obtain ⟨a, hw, hp, hk1, hlt⟩ := keys_cons (e := e) hk
  have hx := h ws e (n + 1) (o + 1) g _ hk1 (End.cons _ (by decide)) (by omega) (by unfold need at *; omega)
  have hk2 := keys_skip _ _ hk1
  obtain ⟨a2, hw2, hp2, hk3, hlt2⟩ := keys_cons (e := e) hk2
  have i1 := hb ws e _ (o + 1) g _ _ hk3 (by decide) (by omega) (by unfold need at *; omega)
  have hk4 := keys_skip _ _ hk3
  rw [Pz.sentence.eq_def]
  simp only [sees_key hk, opens_le (ws := ws) (e := e) (n := n) (o := o) (by omega), R.andThen, hx, wn, takes_key (k := 7) hk2, i1, takes_key (k := 7) hk4]
  simp [wl, wl_append]; omega
/-! primaries that hold others -/
theorem prim_pick {x : T} {l : List T} {d : Nat} (hx : NounOf x (noun x) d) (hne : l ≠ []) (hl : ∀ y ∈ l, NounOf y (noun y) d) :
    PrimOf (made 5 (x :: l)) (.w 7 [112, 105, 99, 107, 46] :: .b :: noun x ++ .b :: .w 7 [100, 111, 46] :: .b :: ors l ++ [.b, .w 7 [101, 110, 100, 46]]) (d + 1) := by
  intro ws e n o f r hk ho hn
  obtain ⟨y, l, rfl⟩ : ∃ y m, l = y :: m := by cases l with | nil => exact absurd rfl hne | cons y m => exact ⟨y, m, rfl⟩
  obtain ⟨g, rfl⟩ : ∃ g, f = g + 2 := ⟨f - 2, by unfold need at hn; have := keys_len _ hk; simp [wl, wl_append] at this; omega⟩
  simp only [wl, wl_append, wl_ors, List.cons_append, List.append_assoc, List.nil_append] at hk
  obtain ⟨a, hw, hp, hk1, hlt⟩ := keys_cons (e := e) hk
  have h1 := hx ws e (n + 1) (o + 1) g _ hk1 (End.cons _ (by decide)) (by omega) (by unfold need at *; omega)
  have hk2 := keys_skip _ _ hk1
  obtain ⟨a2, hw2, hp2, hk3, hlt2⟩ := keys_cons (e := e) hk2
  have hr : End (tailK (7, [111, 114, 46]) noun l ++ (7, [101, 110, 100, 46]) :: r) := by
    cases l with
    | nil => exact End.cons _ (by decide)
    | cons y l => exact End.cons _ (by decide)
  have h2 := hl y (by simp) ws e _ (o + 1) g _ hk3 hr (by omega) (by unfold need at *; omega)
  have hk4 := keys_skip _ _ hk3
  have h3 := picks_all l [x, y] (w := ⟨7, [112, 105, 99, 107, 46], a⟩) (e := e) (f := g) (o := o + 1) (d := d) (fun z hz => hl z (by simp [hz])) hk4 (by omega) (by unfold need at *; omega)
  rw [primary.eq_def]
  simp only [hw]
  rw [if_neg (by decide), if_neg (by decide), if_neg (by decide), if_neg (by decide), opens_le (by omega)]
  simp only [R.andThen]
  rw [within.eq_def]
  simp only []
  rw [if_neg (by decide), if_pos trivial]
  simp only [h1, R.andThen, wn, takes_key (k := 7) hk2, h2, h3, hp]
  simp [wl, wl_append, wl_ors]; omega
theorem prim_defn {b : T} {l : List Pc} {d : Nat} {m : Int} (hm : m = 1 ∨ m = 2) (hb : BodyOf b l d) :
    PrimOf (.mk 23 E m [] [] [b]) (.w 7 (if m = 1 then [123, 123, 41, 109] else [123, 123, 41, 100]) :: .b :: l ++ [.w 7 [125, 125]]) (d + 1) := by
  intro ws e n o f r hk ho hn
  simp only [wl, wl_append, List.cons_append, List.append_assoc, List.nil_append] at hk
  obtain ⟨a, hw, hp, hk1, hlt⟩ := keys_cons (e := e) hk
  obtain ⟨g, rfl⟩ : ∃ g, f = g + 2 := ⟨f - 2, by unfold need at hn; omega⟩
  have i1 := hb ws e (n + 1) (o + 1) g _ _ hk1 (by decide) (by omega) (by unfold need at *; omega)
  have hk2 := keys_skip _ _ hk1
  rw [primary.eq_def]
  simp only [hw]
  rw [if_neg (by decide), if_neg (by decide), if_neg (by decide), if_neg (by decide), opens_le (by omega)]
  simp only [R.andThen]
  rw [within.eq_def]
  simp only [i1, wn, takes_key (k := 7) hk2, hp]
  rcases hm with rfl | rfl <;> simp [R.andThen, wl, wl_append, takes_key (e := e) (k := 7) hk2] <;> omega
end
end Pp
end Go.Proofs.YtboondbognbnnaaGreatDoor

namespace Go.Proofs.YtboondbognbnnaaGreatDoor
namespace Pp
open Pz
section
variable {ws : List W} {e n : Nat}
theorem First.rest {l : List Pc} (h : First l) (r : List Key) : Rest (wl l ++ r) := by
  obtain ⟨q, p, h1, h2⟩ := h
  rw [h1]; exact h2.rest _
theorem verbs_plain {l : List U} (h : ∀ u ∈ l, ∃ t a, u = un t a ∧ T.cls t.kind = 3) : ∀ v ∈ l, v.noun = false := by
  intro v hv
  obtain ⟨t, a, rfl, hc⟩ := h v hv
  exact (un_verb hc).2
theorem prim_hook {u v : T} {lu lv : List Pc} {d : Nat} (hu : UnitOf u lu d) (fu : First lu) (cu : T.cls u.kind = 3) (hv : UnitOf v lv d) (fv : First lv) (cv : T.cls v.kind = 3) :
    PrimOf (made 44 [u, v]) (.w 7 [40] :: (lu ++ .b :: lv) ++ [.w 7 [41]]) (d + 1) := by
  intro ws e n o f r hk ho hn
  simp only [wl, wl_append, List.cons_append, List.append_assoc, List.nil_append] at hk
  obtain ⟨a, hw, hp, hk1, hlt⟩ := keys_cons (e := e) hk
  obtain ⟨q, p, h1, h2, h3⟩ := fu.keys hk1
  obtain ⟨g, rfl⟩ : ∃ g, f = g + 3 := ⟨f - 3, by unfold need at hn; omega⟩
  have pu := fu.pos
  have pv := fv.pos
  have iu := hu.whole (e := e) (o := o + 1) (f := g) hk1 (fv.rest _) (by omega) (by unfold need at *; omega)
  have hk2 := keys_skip _ _ hk1
  obtain ⟨q2, p2, h4, h5, h6⟩ := fv.keys hk2
  obtain ⟨g2, rfl⟩ : ∃ g2, g = g2 + 2 := ⟨g - 2, by unfold need at hn; omega⟩
  have hend : End ((7, [41]) :: r) := End.cons _ (by decide)
  have iv := hv.whole (e := e) (o := o + 1) (f := g2 + 1) hk2 hend.rest (by omega) (by simp only [need, wn] at *; omega)
  have hk3 := keys_skip _ _ hk2
  have hfr : fromU ws e (g2 + 2) (n + 1 + wn lu) (o + 1) [un u (place ws e (n + 1))] = .ok (made 44 [u, v], n + 1 + wn lu + wn lv) := by
    rw [fromU_go (h5.begins h4).1 iv]
    exact fromU_verbs (u := un v (place ws e (n + 1 + wn lu))) hend hk3 rfl (by intro x hx; simp only [List.cons_append, List.nil_append, List.mem_cons, List.not_mem_nil, or_false] at hx; rcases hx with rfl | rfl; exact (un_verb cu).2; exact (un_verb cv).2) rfl (by rfl)
  rw [primary_bracket (e := e) (o := o) hw rfl rfl (by omega) (h2.begins h1).1 iu (h5.begins h4).2.2 hfr hk3, hp]
  simp [wn, wl, wl_append]; omega
theorem prim_cap {u v : T} {lu lv : List Pc} {d : Nat} (hu : UnitOf u lu d) (fu : First lu) (cu : T.cls u.kind = 3) (hv : UnitOf v lv d) (fv : First lv) (cv : T.cls v.kind = 3) :
    PrimOf (made 46 [u, v]) (.w 7 [40] :: .w 7 [91, 58] :: .b :: (lu ++ .b :: lv) ++ [.w 7 [41]]) (d + 1) := by
  intro ws e n o f r hk ho hn
  simp only [wl, wl_append, List.cons_append, List.append_assoc, List.nil_append] at hk
  obtain ⟨a, hw, hp, hk1, hlt⟩ := keys_cons (e := e) hk
  obtain ⟨a', hw', hp', hk1', hlt'⟩ := keys_cons (e := e) hk1
  obtain ⟨q, p, h1, h2, h3⟩ := fu.keys hk1'
  have pu := fu.pos
  have pv := fv.pos
  obtain ⟨g, rfl⟩ : ∃ g, f = g + 6 := ⟨f - 6, by unfold need at hn; omega⟩
  have ic : unit ws e (g + 3) (n + 1) (o + 1) = .ok (⟨.mk 0 ⟨#[]⟩ 0 [] [] [], none, true, place ws e (n + 1)⟩, n + 1 + 1) := by
    rw [unit.eq_def]
    simp only [sees_key hk1]
    rfl
  have iu := hu.whole (e := e) (o := o + 1) (f := g + 2) hk1' (fv.rest _) (by omega) (by unfold need at *; omega)
  have hk2 := keys_skip _ _ hk1'
  obtain ⟨q2, p2, h4, h5, h6⟩ := fv.keys hk2
  have hend : End ((7, [41]) :: r) := End.cons _ (by decide)
  have iv := hv.whole (e := e) (o := o + 1) (f := g + 1) hk2 hend.rest (by omega) (by simp only [need, wn] at *; omega)
  have hk3 := keys_skip _ _ hk2
  have hb : Pz.begins ws (n + 1) = true := by unfold Pz.begins; rw [hw']; simp
  have hfr : fromU ws e (g + 3) (n + 1 + 1) (o + 1) [⟨.mk 0 ⟨#[]⟩ 0 [] [] [], none, true, place ws e (n + 1)⟩] = .ok (made 46 [u, v], n + 1 + 1 + wn lu + wn lv) := by
    rw [fromU_go (h2.begins h1).1 iu, fromU_go (h5.begins h4).1 iv]
    exact fromU_verbs (u := un v (place ws e (n + 1 + 1 + wn lu))) hend hk3 rfl (by intro x hx; simp only [List.cons_append, List.nil_append, List.mem_cons, List.not_mem_nil, or_false] at hx; rcases hx with rfl | rfl | rfl; rfl; exact (un_verb cu).2; exact (un_verb cv).2) rfl (by rfl)
  rw [primary_bracket (e := e) (o := o) hw rfl rfl (by omega) hb ic (h2.begins h1).2.2 hfr hk3, hp]
  simp [wn, wl, wl_append]; omega
theorem prim_fork {u v z : T} {lu lv lz : List Pc} {d : Nat} (hu : UnitOf u lu d) (fu : First lu) (cu : T.cls u.kind = 3) (hv : UnitOf v lv d) (fv : First lv) (cv : T.cls v.kind = 3) (hz : UnitOf z lz d) (fz : First lz) (cz : T.cls z.kind = 3) :
    PrimOf (made 45 [u, v, z]) (.w 7 [40] :: (lu ++ .b :: lv ++ .b :: lz) ++ [.w 7 [41]]) (d + 1) := by
  intro ws e n o f r hk ho hn
  simp only [wl, wl_append, List.cons_append, List.append_assoc, List.nil_append] at hk
  obtain ⟨a, hw, hp, hk1, hlt⟩ := keys_cons (e := e) hk
  obtain ⟨q, p, h1, h2, h3⟩ := fu.keys hk1
  have pu := fu.pos
  have pv := fv.pos
  have pz := fz.pos
  obtain ⟨g, rfl⟩ : ∃ g, f = g + 6 := ⟨f - 6, by unfold need at hn; omega⟩
  have iu := hu.whole (e := e) (o := o + 1) (f := g + 3) hk1 (fv.rest _) (by omega) (by unfold need at *; omega)
  have hk2 := keys_skip _ _ hk1
  obtain ⟨q2, p2, h4, h5, h6⟩ := fv.keys hk2
  have hend : End ((7, [41]) :: r) := End.cons _ (by decide)
  have iv := hv.whole (e := e) (o := o + 1) (f := g + 2) hk2 (fz.rest _) (by omega) (by simp only [need, wn] at *; omega)
  have hk3 := keys_skip _ _ hk2
  obtain ⟨q3, p3, h7, h8, h9⟩ := fz.keys hk3
  have iz := hz.whole (e := e) (o := o + 1) (f := g + 1) hk3 hend.rest (by omega) (by simp only [need, wn] at *; omega)
  have hk4 := keys_skip _ _ hk3
  have hfr : fromU ws e (g + 3) (n + 1 + wn lu) (o + 1) [un u (place ws e (n + 1))] = .ok (made 45 [u, v, z], n + 1 + wn lu + wn lv + wn lz) := by
    rw [fromU_go (h5.begins h4).1 iv, fromU_go (h8.begins h7).1 iz]
    exact fromU_verbs (u := un z (place ws e (n + 1 + wn lu + wn lv))) hend hk4 rfl (by intro x hx; simp only [List.cons_append, List.nil_append, List.mem_cons, List.not_mem_nil, or_false] at hx; rcases hx with rfl | rfl | rfl; exact (un_verb cu).2; exact (un_verb cv).2; exact (un_verb cz).2) rfl (by rfl)
  rw [primary_bracket (e := e) (o := o) hw rfl rfl (by omega) (h2.begins h1).1 iu (h5.begins h4).2.2 hfr hk4, hp]
  simp [wn, wl, wl_append]; omega
theorem ties_all {w : W} : ∀ (l : List T) (acc : List U) {n o f d : Nat} {r : List Key}, (∀ x ∈ l, UnitOf x (phrase x) d ∧ First (phrase x) ∧ T.cls x.kind = 3) → acc ≠ [] → (∀ u ∈ acc, ∃ t a, u = un t a ∧ T.cls t.kind = 3) →
    keys ws n = tailK (6, [96]) phrase l ++ (7, [41]) :: r → o + d ≤ 512 → need ws n 1 ≤ f →
    Pz.ties ws e f w n o acc = .ok (⟨.mk 0 ⟨#[]⟩ 0 [] [] [], some (acc.map U.t ++ l), false, w.at_⟩, n + (tailK (6, [96]) phrase l).length + 1)
  | [], acc, n, o, f, d, r, _, _, _, hk, ho, hn => by
    obtain ⟨g, rfl⟩ : ∃ g, f = g + 1 := ⟨f - 1, by unfold need at hn; omega⟩
    simp only [tailK, List.nil_append] at hk
    rw [Pz.ties.eq_def]
    simp only [tie_key hk, takes_key (e := e) (k := 7) hk]
    simp [R.andThen, tailK]
  | x :: l, acc, n, o, f, d, r, hl, hne, ha, hk, ho, hn => by
    simp only [tailK, List.cons_append, List.append_assoc] at hk
    obtain ⟨a, hw, hp, hk1, hlt⟩ := keys_cons (e := e) hk
    obtain ⟨g, rfl⟩ : ∃ g, f = g + 1 := ⟨f - 1, by unfold need at hn; omega⟩
    obtain ⟨hx, fx, cx⟩ := hl x (by simp)
    obtain ⟨q, p, h1, h2, h3⟩ := fx.keys hk1
    have hr : Rest (tailK (6, [96]) phrase l ++ (7, [41]) :: r) := by
      cases l with
      | nil => exact (End.cons _ (by decide)).rest
      | cons y l => intro k s q e'; cases e'; exact ⟨by decide, fun _ => rfl⟩
    have i1 := hx.whole (e := e) (o := o) (f := g) hk1 hr ho (by unfold need at *; omega)
    have hk2 := keys_skip _ _ hk1
    obtain ⟨u, hu⟩ : ∃ u, acc.getLast? = some u := by
      cases h : acc.getLast? with
      | none => exact absurd (List.getLast?_eq_none_iff.1 h) hne
      | some u => exact ⟨u, rfl⟩
    obtain ⟨t, b, rfl, hc⟩ := ha u (List.mem_of_getLast? hu)
    have i2 := ties_all l (acc ++ [un x (place ws e (n + 1))]) (w := w) (f := g) (fun y hy => hl y (by simp [hy])) (by simp) (by
      intro v hv
      rcases List.mem_append.1 hv with hv | hv
      · exact ha v hv
      · rw [List.mem_singleton.1 hv]; exact ⟨_, _, rfl, cx⟩) hk2 ho (by unfold need at *; omega)
    rw [Pz.ties.eq_def]
    simp only [tie_key hk, hu, (un_verb hc).1, (h2.begins h1).1, i1, R.andThen, (un_verb cx).1, wn, i2]
    simp [tailK]; omega
theorem prim_gerund {v z : T} {l : List T} {d : Nat} (hl : ∀ x ∈ v :: z :: l, UnitOf x (phrase x) d ∧ First (phrase x) ∧ T.cls x.kind = 3) {o f : Nat} {r : List Key}
    (hk : keys ws n = wl (.w 7 [40] :: ties (v :: z :: l) ++ [.w 7 [41]]) ++ r) (ho : o + (d + 1) ≤ 512) (hn : need ws n 1 ≤ f) :
    primary ws e f n o = .ok (⟨.mk 0 ⟨#[]⟩ 0 [] [] [], some (v :: z :: l), false, place ws e n⟩, n + wn (.w 7 [40] :: ties (v :: z :: l) ++ [.w 7 [41]])) := by
  simp only [wl, wl_append, wl_ties, List.cons_append, List.append_assoc, List.nil_append] at hk
  obtain ⟨a, hw, hp, hk1, hlt⟩ := keys_cons (e := e) hk
  obtain ⟨hv, fv, cv⟩ := hl v (by simp)
  obtain ⟨q, p, h1, h2, h3⟩ := fv.keys hk1
  obtain ⟨g, rfl⟩ : ∃ g, f = g + 3 := ⟨f - 3, by unfold need at hn; omega⟩
  have hr : Rest (tailK (6, [96]) phrase (z :: l) ++ (7, [41]) :: r) := by intro k s q e'; cases e'; exact ⟨by decide, fun _ => rfl⟩
  have i1 := hv.whole (e := e) (o := o + 1) (f := g) hk1 hr (by omega) (by unfold need at *; omega)
  have hk2 := keys_skip _ _ hk1
  have ht : tie ws (n + 1 + wn (phrase v)) = true := by
    have : keys ws (n + 1 + wn (phrase v)) = (6, [96]) :: (wl (phrase z) ++ tailK (6, [96]) phrase l ++ (7, [41]) :: r) := hk2
    rw [tie_key this]; rfl
  have i2 := ties_all (z :: l) [un v (place ws e (n + 1))] (e := e) (w := ⟨7, [40], a⟩) (f := g) (o := o + 1) (d := d) (fun y hy => hl y (by simp only [List.mem_cons] at hy ⊢; exact .inr hy)) (by simp) (by
      intro u hu
      rw [List.mem_singleton.1 hu]; exact ⟨_, _, rfl, cv⟩) hk2 (by omega) (by have := fv.pos; simp only [need, wn] at *; omega)
  rw [primary.eq_def]
  simp only [hw]
  rw [if_neg (by decide), if_neg (by decide), if_neg (by decide), if_neg (by decide), opens_le (by omega)]
  simp only [R.andThen]
  rw [within.eq_def]
  simp only [if_true]
  rw [bracket.eq_def]
  simp only [(h2.begins h1).1, Bool.true_eq_false, if_false, i1, R.andThen, ht, i2, hp]
  simp [wn, wl, wl_append, wl_ties]; omega
/-- what stands behind u makes it t -/
def TailOf (u t : T) (lt : List Pc) (d : Nat) : Prop := ∀ (ws : List W) (e n o f : Nat) (at_ b : Int) (r : List Key), keys ws n = wl lt ++ r → o + d ≤ 512 → need ws n 2 ≤ f →
  ∃ f', need ws (n + wn lt) 2 ≤ f' ∧ behindU ws e f at_ n o (un u b) = behindU ws e f' at_ (n + wn lt) o (un t at_)
theorem unit_tail {u t : T} {lu lt : List Pc} {d : Nat} (hu : UnitOf u lu d) (ht : TailOf u t lt d) : UnitOf t (lu ++ lt) d := by
  intro ws e n o f r hk ho hn
  rw [wl_append, List.append_assoc] at hk
  obtain ⟨f1, h1, h2⟩ := hu ws e n o f _ hk ho hn
  obtain ⟨f2, h3, h4⟩ := ht ws e (n + wn lu) o f1 (place ws e n) (place ws e n) r (keys_skip _ _ hk) ho h1
  have hl : n + wn (lu ++ lt) = n + wn lu + wn lt := by simp [wn, wl_append, Nat.add_assoc]
  rw [hl]
  exact ⟨f2, h3, h2.trans h4⟩
theorem tail_adv {k : Int} {u : T} (hk : k = 24 ∨ k = 25 ∨ k = 26 ∨ k = 27) (hu : T.cls u.kind = 3) (d : Nat) : TailOf u (made k [u]) (Pp.mark k) d := by
  intro ws e n o f at_ b r hk' ho hn
  have hm : ∃ s, wl (Pp.mark k) = [(5, s)] ∧ ((k = 24 ∧ s = [47]) ∨ (k = 25 ∧ s = [92]) ∨ (k = 26 ∧ s = [92, 46]) ∨ (k = 27 ∧ s = [126])) := by
    rcases hk with rfl | rfl | rfl | rfl
    · exact ⟨_, rfl, by decide⟩
    · exact ⟨_, rfl, by decide⟩
    · exact ⟨_, rfl, by decide⟩
    · exact ⟨_, rfl, by decide⟩
  obtain ⟨s, h1, h2⟩ := hm
  rw [h1] at hk'
  obtain ⟨a, hw, hp, hk1, hlt⟩ := keys_cons (e := e) hk'
  obtain ⟨g, rfl⟩ : ∃ g, f = g + 1 := ⟨f - 1, by unfold need at hn; omega⟩
  have hl : wn (Pp.mark k) = 1 := by rw [wn, h1]; rfl
  rw [hl]
  exact ⟨g, by unfold need at *; omega, behindU_adv h2 hw hu⟩
theorem tail_conj {k : Int} {u v : T} (hk : 28 ≤ k ∧ k ≤ 38) (hu : T.cls u.kind = 3) (hc : T.cls v.kind = 3) {lv : List Pc} {d : Nat} (hv : PrimOf v lv d) (fv : First lv) : TailOf u (made k [u, v]) (Pp.mark k ++ lv) d := by
  intro ws e n o f at_ b r hk' ho hn
  obtain ⟨s, h1, h2, h3⟩ := conj_read (ws := ws) (e := e) (n := n + 1) hk
  rw [wl_append, h1] at hk'
  obtain ⟨a, hw, hp, hk1, hlt⟩ := keys_cons (e := e) hk'
  obtain ⟨g, rfl⟩ : ∃ g, f = g + 4 := ⟨f - 4, by unfold need at hn; omega⟩
  have hs := side_prim (e := e) (f := g) (o := o) hv fv hk1 ho (by unfold need at *; omega)
  have hl : wn (Pp.mark k ++ lv) = 1 + wn lv := by simp [wn, wl_append, h1]; omega
  rw [hl, ← Nat.add_assoc]
  exact ⟨g + 3, by simp only [need] at *; omega, behindU_conj h2 hw (by simp) (h3 hu hc hs)⟩
theorem tail_bondR {k : Int} {u x : T} (hk : k = 40 ∨ k = 41) (hu : T.cls u.kind = 3) (hx : x.kind = 1 ∨ x.kind = 2) {lx : List Pc} {d : Nat} (hp : PrimOf x lx d) (fx : First lx) : TailOf u (made k [u, x]) (Pp.mark k ++ lx) d := by
  intro ws e n o f at_ b r hk' ho hn
  obtain ⟨s, h1, h2, h3⟩ := conj40 (ws := ws) (e := e) (n := n + 1) hk
  rw [wl_append, h1] at hk'
  obtain ⟨a, hw, hp', hk1, hlt⟩ := keys_cons (e := e) hk'
  obtain ⟨g, rfl⟩ : ∃ g, f = g + 4 := ⟨f - 4, by unfold need at hn; omega⟩
  have hs := side_prim (e := e) (f := g) (o := o) hp fx hk1 ho (by unfold need at *; omega)
  have hl : wn (Pp.mark k ++ lx) = 1 + wn lx := by simp [wn, wl_append, h1]; omega
  rw [hl, ← Nat.add_assoc]
  exact ⟨g + 3, by simp only [need] at *; omega, behindU_conj h2 hw (by simp) (h3 hu hx hs)⟩
theorem tail_bondL {x v : T} (hx : x.kind = 1 ∨ x.kind = 2) (hc : T.cls v.kind = 3) {lv : List Pc} {d : Nat} (hv : PrimOf v lv d) (fv : First lv) : TailOf x (made 39 [x, v]) (.w 6 [38] :: lv) d := by
  intro ws e n o f at_ b r hk ho hn
  obtain ⟨a, hw, hp, hk1, hlt⟩ := keys_cons (e := e) hk
  obtain ⟨g, rfl⟩ : ∃ g, f = g + 4 := ⟨f - 4, by unfold need at hn; omega⟩
  have hb := behind_prim (e := e) (f := g) (o := o) hv fv hc hk1 ho (by unfold need at *; omega)
  have hl : wn (.w 6 [38] :: lv) = 1 + wn lv := by simp [wn, wl]; omega
  rw [hl, ← Nat.add_assoc]
  exact ⟨g + 3, by simp only [need] at *; omega, behindU_conj (by decide) hw (by simp) (conj39 hx hb)⟩
theorem tail_const {x : T} (hx : x.kind = 1 ∨ x.kind = 2) (d : Nat) : TailOf x (made 22 [x]) [.w 6 [34], .w 1 [95]] d := by
  intro ws e n o f at_ b r hk ho hn
  obtain ⟨a, hw, hp, hk1, hlt⟩ := keys_cons (e := e) hk
  obtain ⟨a1, hw1, hp1, hk2, hlt1⟩ := keys_cons (e := e) hk1
  obtain ⟨g, rfl⟩ : ∃ g, f = g + 2 := ⟨f - 2, by unfold need at hn; omega⟩
  exact ⟨g + 1, by simp only [need, wn, wl, List.length_cons, List.length_nil] at *; omega, behindU_conj (by decide) hw (by simp) (conj22 hx hw1)⟩
theorem tail_rank {u : T} {l : List Int} (hu : T.cls u.kind = 3) (hne : l ≠ []) (hl : ∀ n ∈ l, inRange n = true) (d : Nat) : TailOf u (.mk 42 E 0 [(l.length : Int)] l [u]) [.w 6 [34], .w 1 (nums true l)] d := by
  intro ws e n o f at_ b r hk ho hn
  obtain ⟨a, hw, hp, hk1, hlt⟩ := keys_cons (e := e) hk
  obtain ⟨a1, hw1, hp1, hk2, hlt1⟩ := keys_cons (e := e) hk1
  obtain ⟨g, rfl⟩ : ∃ g, f = g + 2 := ⟨f - 2, by unfold need at hn; omega⟩
  exact ⟨g + 1, by simp only [need, wn, wl, List.length_cons, List.length_nil] at *; omega, behindU_conj (by decide) hw (by simp) (conj42 hu hne hl hw1)⟩
theorem tail_agenda {s v : T} (hv : T.cls v.kind = 3) (hc : T.cls s.kind = 3) {ls : List Pc} {d : Nat} (hs : PrimOf s ls d) (fs : First ls) : TailOf v (made 43 [s, v]) (.w 6 [64, 46] :: ls) d := by
  intro ws e n o f at_ b r hk ho hn
  obtain ⟨a, hw, hp, hk1, hlt⟩ := keys_cons (e := e) hk
  obtain ⟨g, rfl⟩ : ∃ g, f = g + 4 := ⟨f - 4, by unfold need at hn; omega⟩
  have hb := behind_prim (e := e) (f := g) (o := o) hs fs hc hk1 ho (by unfold need at *; omega)
  have hl : wn (.w 6 [64, 46] :: ls) = 1 + wn ls := by simp [wn, wl]; omega
  rw [hl, ← Nat.add_assoc]
  exact ⟨g + 3, by simp only [need] at *; omega, behindU_conj (by decide) hw (by simp) (conj43 hb rfl (un_verb hv).1)⟩
theorem unit_gerund {s v z : T} {l : List T} {ls : List Pc} {d : Nat} (hl : ∀ x ∈ v :: z :: l, UnitOf x (phrase x) d ∧ First (phrase x) ∧ T.cls x.kind = 3) (hc : T.cls s.kind = 3) (hs : PrimOf s ls (d + 1)) (fs : First ls) :
    UnitOf (made 43 (s :: v :: z :: l)) (.w 7 [40] :: ties (v :: z :: l) ++ [.w 7 [41]] ++ .w 6 [64, 46] :: ls) (d + 1) := by
  intro ws e n o f r hk ho hn
  rw [wl_append, List.append_assoc] at hk
  have hk0 : keys ws n = (7, [40]) :: (wl (ties (v :: z :: l) ++ [.w 7 [41]]) ++ (wl (.w 6 [64, 46] :: ls) ++ r)) := hk
  obtain ⟨g, rfl⟩ : ∃ g, f = g + 5 := ⟨f - 5, by have := keys_len _ hk0; unfold need at hn; simp at this; omega⟩
  have ip := prim_gerund (e := e) (f := g + 4) (o := o) hl hk ho (by unfold need at *; omega)
  have hk2 := keys_skip _ _ hk
  obtain ⟨a, hw, hp, hk1, hlt⟩ := keys_cons (e := e) hk2
  have hlen : 1 ≤ (wl (.w 7 [40] :: ties (v :: z :: l) ++ [.w 7 [41]])).length := by simp [wl]
  have hb := behind_prim (e := e) (f := g) (o := o) hs fs hc hk1 ho (by unfold need at *; omega)
  rw [unit_go (.inr ⟨rfl, by decide⟩) hk0, ip]
  simp only [R.andThen]
  have hw' : ws[n + wn (.w 7 [40] :: ties (v :: z :: l) ++ [.w 7 [41]])]? = some ⟨6, [64, 46], a⟩ := hw
  have := behindU_conj (e := e) (f := g + 3) (at_ := place ws e n) (u := ⟨.mk 0 ⟨#[]⟩ 0 [] [] [], some (v :: z :: l), false, place ws e n⟩) (by decide) hw' (fun _ => rfl) (conj43g (a := a) hb rfl)
  refine ⟨g + 3, ?_, ?_⟩
  · simp only [need, wn, wl_append, wl, List.length_append, List.length_cons] at *; omega
  · rw [this]
    congr 1
    simp [wn, wl, wl_append]; omega
end
end Pp
end Go.Proofs.YtboondbognbnnaaGreatDoor

namespace Go.Proofs.YtboondbognbnnaaGreatDoor
namespace Pp
open Pz
/-- the second word of a verb that begins with a small name is a conjunction -/
def NV (l : List Pc) : Prop := ∀ (s : List UInt8) (q : List Key), wl l = (2, s) :: q → ∃ t p, q = (6, t) :: p
theorem NV.app {l : List Pc} (h : NV l) (hf : First l) (m : List Pc) : NV (l ++ m) := by
  intro s q e
  obtain ⟨q0, r0, h1, h2⟩ := hf
  rw [wl_append, h1] at e
  cases e
  obtain ⟨t, p, rfl⟩ := h s r0 h1
  exact ⟨t, _, rfl⟩
theorem NV.other {l : List Pc} {k : Int} {s : List UInt8} {r : List Key} (h : wl l = (k, s) :: r) (hk : k ≠ 2) : NV l := by
  intro t q e
  rw [h] at e; cases e; exact absurd rfl hk
theorem NV.brk {l : List Pc} (h : NV l) (so : Bool) : NV (brk so l) := by
  cases so with
  | false => exact h
  | true => exact NV.other (k := 7) rfl (by decide)
theorem NV.ns {l : List Pc} (h : NV l) (hf : First l) (m : List Pc) : NS (l ++ m) := by
  intro s q r hr e p
  obtain ⟨q0, r0, h1, h2⟩ := hf
  rw [wl_append, h1] at e
  cases e
  obtain ⟨t, p', rfl⟩ := h s r0 h1
  intro e'; cases e'
structure PV (t : T) : Prop where
  first : First (phrase t)
  cls : T.cls t.kind = 3
  prim : whole t.kind = true → PrimOf t (phrase t) (2 * t.height)
  unit : UnitOf t (phrase t) (2 * t.height)
  nv : NV (phrase t)
structure PN (x : T) : Prop where
  first : First (noun x)
  cls : T.cls x.kind = 1
  prim : x.kind ≠ 3 → x.kind ≠ 4 → PrimOf x (noun x) (2 * x.height)
  from_ : FromOf x (noun x) (2 * x.height)
  ns : NS (noun x)
structure PS (s : T) : Prop where
  sent : SentOf s (sentence s) (2 * s.height)
  first : ∃ q r, wl (sentence s) = q :: r ∧ FS q
structure PB (b : T) : Prop where
  body : BodyOf b (body b) (2 * b.height)
def Back : Nat → T → Prop
  | 0, t => PV t
  | 1, t => PN t
  | 2, t => PS t
  | _, t => PB t
theorem PV.cl {v : T} (h : PV v) : PrimOf v (cl v) (2 * v.height + 1) ∧ First (cl v) := by
  refine ⟨?_, h.first.brk _⟩
  show PrimOf v (Pp.brk (!whole v.kind) (phrase v)) _
  cases hw : whole v.kind with
  | true => exact (h.prim hw).mono (by omega)
  | false => exact bracket_verb h.unit h.first h.cls
theorem PV.of_prim {t : T} (hf : First (phrase t)) (hc : T.cls t.kind = 3) (hp : PrimOf t (phrase t) (2 * t.height)) (hn : NV (phrase t)) : PV t := ⟨hf, hc, fun _ => hp, hp.unit hf, hn⟩
theorem PN.of_prim {x : T} (hf : First (noun x)) (hc : T.cls x.kind = 1) (hp : PrimOf x (noun x) (2 * x.height)) (hn : NS (noun x)) : PN x := ⟨hf, hc, fun _ _ => hp, from_one hp hf hc, hn⟩
theorem PN.noun {x : T} (h : PN x) : NounOf x (noun x) (2 * x.height) := noun_of h.from_ h.first h.cls
theorem PN.op {x : T} (h : PN x) (hk : x.kind = 1 ∨ x.kind = 2) : PrimOf x (Pp.noun x) (2 * x.height) := h.prim (by omega) (by omega)
theorem fk_num {k : Int} {s : List UInt8} (h : 1 ≤ k ∧ k ≤ 4) : FK (k, s) := .inl h
theorem h1 (k n : Int) (s : ByteArray) (sh a : List Int) (u : T) : (T.mk k s n sh a [u]).height = 1 + u.height := by simp [T.height, T.heightL]
theorem h2 (k n : Int) (s : ByteArray) (sh a : List Int) (u v : T) : u.height + 1 ≤ (T.mk k s n sh a [u, v]).height ∧ v.height + 1 ≤ (T.mk k s n sh a [u, v]).height := by simp only [T.height, T.heightL]; omega
theorem h3 (k n : Int) (s : ByteArray) (sh a : List Int) (u v z : T) : u.height + 1 ≤ (T.mk k s n sh a [u, v, z]).height ∧ v.height + 1 ≤ (T.mk k s n sh a [u, v, z]).height ∧ z.height + 1 ≤ (T.mk k s n sh a [u, v, z]).height := by simp only [T.height, T.heightL]; omega
theorem hl (k n : Int) (s : ByteArray) (sh a : List Int) {l : List T} {x : T} (h : x ∈ l) : x.height + 1 ≤ (T.mk k s n sh a l).height := by
  have := T.height_mem h; simp only [T.height]; omega
theorem m1 (k : Int) (u : T) : (made k [u]).height = 1 + u.height := h1 k 0 E [] [] u
theorem m2 (k : Int) (u v : T) : u.height + 1 ≤ (made k [u, v]).height ∧ v.height + 1 ≤ (made k [u, v]).height := h2 k 0 E [] [] u v
theorem m3 (k : Int) (u v z : T) : u.height + 1 ≤ (made k [u, v, z]).height ∧ v.height + 1 ≤ (made k [u, v, z]).height ∧ z.height + 1 ≤ (made k [u, v, z]).height := h3 k 0 E [] [] u v z
theorem ml (k : Int) {l : List T} {x : T} (h : x ∈ l) : x.height + 1 ≤ (made k l).height := hl k 0 E [] [] h
/-- a verb that goes on behind another -/
theorem PV.of_tail' {u t : T} {lt : List Pc} {lu : List Pc} {d : Nat} (he : phrase t = lu ++ lt) (hf : First lu) (hv : NV (lu ++ lt)) (hu : UnitOf u lu d) (ht : TailOf u t lt d) (hd : d ≤ 2 * t.height) (hc : T.cls t.kind = 3) (hw : whole t.kind = false) : PV t := by
  refine ⟨by rw [he]; exact hf.app _, hc, fun h => (by rw [hw] at h; cases h), ?_, by rw [he]; exact hv⟩
  rw [he]; exact (unit_tail hu ht).mono hd
theorem PV.of_tail {u t : T} {lt : List Pc} {lu : List Pc} {d : Nat} (he : phrase t = lu ++ lt) (hf : First lu) (hv : NV lu) (hu : UnitOf u lu d) (ht : TailOf u t lt d) (hd : d ≤ 2 * t.height) (hc : T.cls t.kind = 3) (hw : whole t.kind = false) : PV t :=
  PV.of_tail' he hf (hv.app hf _) hu ht hd hc hw
theorem operand_text {x : T} (h : G 1 x) (hk : x.kind = 1 ∨ x.kind = 2) : ∃ k s, Pp.noun x = [.w k s] ∧ (k = 1 ∨ k = 2) := by
  cases h with
  | num sh a h hr => exact ⟨_, _, n_num _ _, .inl rfl⟩
  | nam s h => exact ⟨_, _, n_nam _, .inr rfl⟩
  | mon v x => simp [made] at hk
  | dy v x y => simp [made] at hk
  | pick x l => simp [made] at hk
theorem NV.op {x : T} (h : G 1 x) (hk : x.kind = 1 ∨ x.kind = 2) (t : List UInt8) (m : List Pc) : NV (Pp.noun x ++ .w 6 t :: m) := by
  obtain ⟨k, s, e, _⟩ := operand_text h hk
  rw [e]; intro s q e'
  have e' : (k, _) :: (6, t) :: wl m = (2, s) :: q := e'
  cases e'; exact ⟨_, _, rfl⟩
theorem back_all {c : Nat} {t : T} (h : G c t) : Back c t := by
  induction h with
  | num sh a h hr =>
    refine PN.of_prim (by rw [n_num]; exact ⟨_, _, rfl, fk_num (by decide)⟩) rfl (by rw [n_num]; exact prim_num h hr _) ?_
    rw [n_num]; intro s q r _ e; cases e
  | nam s h =>
    refine PN.of_prim (by rw [n_nam]; exact ⟨_, _, rfl, fk_num (by decide)⟩) rfl (by rw [n_nam]; exact prim_nam s _) ?_
    rw [n_nam]; intro s q r hr e p
    have e : (2, txt _) :: r = (2, s) :: q := e
    cases e
    rintro rfl
    have := (hr _ _ _ rfl).2
    exact absurd this (by decide)
  | mon v x hv hx iv ix =>
    have iv : PV v := iv
    have ix : PN x := ix
    have hh := m2 3 v x
    have hf := iv.first.brk (ends v && Pp.first x)
    refine ⟨by rw [n_mon]; exact hf.app _, rfl, fun h => absurd rfl h, ?_, by rw [n_mon]; exact (iv.nv.brk _).ns hf _⟩
    rw [n_mon]
    refine from_mon ((iv.unit.brk iv.first iv.cls _).mono ?_) hf iv.cls (ix.from_.mono ?_) ix.first
    · omega
    · omega
  | dy v x y hv hx hy iv ix iy =>
    have iv : PV v := iv
    have ix : PN x := ix
    have iy : PN y := iy
    have hh := m3 4 v x y
    have hfv := iv.first.brk (ends v && Pp.first y || Pp.begins v && x.kind == 1)
    have hfx := ix.first.brk (x.kind == 3 || x.kind == 4)
    have hd : 2 * v.height + 1 ≤ 2 * (made 4 [v, x, y]).height ∧ 2 * x.height + 1 ≤ 2 * (made 4 [v, x, y]).height ∧ 2 * y.height ≤ 2 * (made 4 [v, x, y]).height := by
      omega
    have hpx : PrimOf x (brk (x.kind == 3 || x.kind == 4) (Pp.noun x)) (2 * x.height + 1) := by
      cases hb : (x.kind == 3 || x.kind == 4) with
      | true => exact bracket_noun ix.from_ ix.first
      | false =>
        simp only [Bool.or_eq_false_iff, beq_eq_false_iff_ne] at hb
        exact (ix.prim hb.1 hb.2).mono (by omega)
    refine ⟨?_, rfl, fun _ h => absurd rfl h, ?_, ?_⟩
    · rw [n_dy, List.append_assoc]; exact hfx.app _
    · rw [n_dy]
      exact from_dy (hpx.mono hd.2.1) hfx ix.cls ((iv.unit.brk iv.first iv.cls _).mono hd.1) hfv iv.cls (iy.from_.mono hd.2.2) iy.first
    · rw [n_dy, List.append_assoc]
      intro s q r hr e p
      rw [wl_append] at e
      cases hb : (x.kind == 3 || x.kind == 4) with
      | true => rw [hb] at e; simp [brk, wl] at e
      | false =>
        rw [hb] at e
        simp only [Bool.or_eq_false_iff, beq_eq_false_iff_ne] at hb
        have hno : ∀ p, q = (7, [61, 46]) :: p → False := by
          intro p e3
          obtain ⟨qv, rv, e1, e2⟩ := hfv
          simp only [wl_append, wl, e1, List.append_assoc, List.cons_append] at e
          cases hx with
          | num sh a h hr => rw [n_num] at e; cases e
          | nam s h =>
            rw [n_nam] at e
            have e : (2, txt _) :: qv :: _ = (2, _) :: q := e
            cases e
            cases e3
            rcases e2 with e2 | e2
            · exact absurd e2 (by decide)
            · exact absurd e2.2 (by decide)
          | mon v x => exact absurd rfl hb.1
          | dy v x y => exact absurd rfl hb.2
          | pick x l => rw [n_pick] at e; cases e
        exact hno p
  | pick x l hx hl' hne ix il =>
    have ix : PN x := ix
    have hd : 2 * x.height + 1 ≤ 2 * (made 5 (x :: l)).height := by have := ml 5 (l := x :: l) (x := x) (by simp); omega
    refine PN.of_prim (by rw [n_pick]; exact ⟨_, _, rfl, .inr ⟨rfl, by decide⟩⟩) rfl ?_ ?_
    · rw [n_pick]
      refine (prim_pick (d := 2 * (made 5 (x :: l)).height - 2) (ix.noun.mono (by omega)) hne (fun y hy => (PN.noun (il y hy)).mono ?_)).mono (by omega)
      have := ml 5 (l := x :: l) (x := y) (by simp [hy])
      omega
    · rw [n_pick]; intro s q r _ e; cases e
  | say x hx ix =>
    have ix : PN x := ix
    have hh := m1 10 x
    refine ⟨?_, ?_⟩
    · rw [s_say]; exact (sent_say ix.noun ix.first ix.ns).mono (by omega)
    · rw [s_say]; obtain ⟨q, r, e1, e2⟩ := ix.first; exact ⟨q, r, e1, .inl e2⟩
  | set s x h hx ix =>
    have ix : PN x := ix
    have hh := h1 11 0 s [] [] x
    refine ⟨?_, ?_⟩
    · rw [s_set]; exact (sent_set s ix.noun).mono (by omega)
    · rw [s_set]; exact ⟨_, _, rfl, .inl (fk_num (by decide))⟩
  | cond x b d hx hb hd ix ib id =>
    have ix : PN x := ix
    have ib : PB b := ib
    have id : PB d := id
    have hh := m3 12 x b d
    refine ⟨?_, ?_⟩
    · rw [s_cond]
      refine (sent_cond (d := 2 * (made 12 [x, b, d]).height - 2) (ix.noun.mono ?_) (ib.body.mono ?_) (id.body.mono ?_)).mono ?_ <;> omega
    · rw [s_cond]; exact ⟨_, _, rfl, .inr (.inl rfl)⟩
  | loop x b hx hb ix ib =>
    have ix : PN x := ix
    have ib : PB b := ib
    have hh := m2 13 x b
    refine ⟨?_, ?_⟩
    · rw [s_loop]
      refine (sent_loop (d := 2 * (made 13 [x, b]).height - 2) (ix.noun.mono ?_) (ib.body.mono ?_)).mono ?_ <;> omega
    · rw [s_loop]; exact ⟨_, _, rfl, .inr (.inr rfl)⟩
  | body l hl' il =>
    refine ⟨?_⟩
    rw [b_body]
    refine body_of (fun x hx => ?_)
    have ix : PS x := il x hx
    have := ml 14 hx
    exact ⟨ix.sent.mono (by omega), ix.first⟩
  | prim s h => exact PV.of_prim (by rw [p_prim]; exact ⟨_, _, rfl, fk_num (by decide)⟩) rfl (by rw [p_prim]; exact prim_prim s _) (by rw [p_prim]; exact NV.other rfl (by decide))
  | name s h => exact PV.of_prim (by rw [p_name]; exact ⟨_, _, rfl, fk_num (by decide)⟩) rfl (by rw [p_name]; exact prim_name s _) (by rw [p_name]; exact NV.other rfl (by decide))
  | const x hx hk ix =>
    have ix : PN x := ix
    have hh := m1 22 x
    have hp := ix.op hk
    exact PV.of_tail' (p_const x) ix.first (NV.op hx hk _ _) (hp.unit ix.first) (tail_const hk _) (by omega) rfl rfl
  | defn m b hm hb ib =>
    have ib : PB b := ib
    have hh := h1 23 m E [] [] b
    refine PV.of_prim ?_ rfl ?_ ?_
    · rw [p_defn]; rcases hm with rfl | rfl <;> exact ⟨_, _, rfl, .inr ⟨rfl, by decide⟩⟩
    · rw [p_defn]; exact (prim_defn hm ib.body).mono (by omega)
    · rw [p_defn]; exact NV.other (k := 7) rfl (by decide)
  | adv k u hk hu iu =>
    have iu : PV u := iu
    have hh := m1 k u
    exact PV.of_tail (p_adv hk u) iu.first iu.nv iu.unit (tail_adv hk iu.cls _) (by omega) (by simp only [made, T.kind_mk]; unfold T.cls; rw [if_neg (by omega), if_neg (by omega), if_pos (by omega)]) (by rcases hk with rfl | rfl | rfl | rfl <;> rfl)
  | conj k u v hk hu hv iu iv =>
    have iu : PV u := iu
    have iv : PV v := iv
    have hh := m2 k u v
    obtain ⟨c1, c2⟩ := iv.cl
    refine PV.of_tail (by rw [p_conj hk, List.append_assoc]) iu.first iu.nv (iu.unit.mono ?_) (tail_conj hk iu.cls iv.cls (c1.mono (d' := 2 * (made k [u, v]).height) ?_) c2) (Nat.le_refl _) (by simp only [made, T.kind_mk]; unfold T.cls; rw [if_neg (by omega), if_neg (by omega), if_pos (by omega)]) ?_
    · omega
    · omega
    · rcases conj_cases hk with rfl | rfl | rfl | rfl | rfl | rfl | rfl | rfl | rfl | rfl | rfl <;> rfl
  | bondL x v hx hk hv ix iv =>
    have ix : PN x := ix
    have iv : PV v := iv
    have hh := m2 39 x v
    have hp := ix.op hk
    obtain ⟨c1, c2⟩ := iv.cl
    exact PV.of_tail' (p_bondL x v) ix.first (NV.op hx hk _ _) ((hp.unit ix.first).mono (by omega)) (tail_bondL hk iv.cls (c1.mono (d' := 2 * (made 39 [x, v]).height) (by omega)) c2) (Nat.le_refl _) rfl rfl
  | bondR k u x hk hu hx hkx iu ix =>
    have iu : PV u := iu
    have ix : PN x := ix
    have hh := m2 k u x
    refine PV.of_tail (by rw [p_bondR hk, List.append_assoc]) iu.first iu.nv (iu.unit.mono ?_) (tail_bondR hk iu.cls hkx ((ix.op hkx).mono (d' := 2 * (made k [u, x]).height) ?_) ix.first) (Nat.le_refl _) (by simp only [made, T.kind_mk]; unfold T.cls; rw [if_neg (by omega), if_neg (by omega), if_pos (by omega)]) ?_
    · omega
    · omega
    · rcases hk with rfl | rfl <;> rfl
  | rank a u hne ha hu iu =>
    have iu : PV u := iu
    have hh := h1 42 0 E [(a.length : Int)] a u
    exact PV.of_tail (p_rank a u) iu.first iu.nv iu.unit (tail_rank iu.cls hne ha _) (by omega) rfl rfl
  | agenda u v l hu hv hl' iu iv il =>
    have iu : PV u := iu
    have iv : PV v := iv
    obtain ⟨c1, c2⟩ := iu.cl
    have hhu := ml 43 (l := u :: v :: l) (x := u) (by simp)
    have hhv := ml 43 (l := u :: v :: l) (x := v) (by simp)
    cases l with
    | nil =>
      refine PV.of_tail (p_agenda1 u v) iv.first iv.nv (iv.unit.mono ?_) (tail_agenda iv.cls iu.cls (c1.mono (d' := 2 * (made 43 [u, v]).height) ?_) c2) (Nat.le_refl _) rfl rfl
      · omega
      · omega
    | cons z l =>
      have hx : ∀ x ∈ v :: z :: l, UnitOf x (phrase x) (2 * (made 43 (u :: v :: z :: l)).height - 2) ∧ First (phrase x) ∧ T.cls x.kind = 3 := by
        intro x hx
        have hh := ml 43 (l := u :: v :: z :: l) (x := x) (List.mem_cons_of_mem _ hx)
        have ix : PV x := by
          rcases List.mem_cons.1 hx with rfl | hx
          · exact iv
          · exact il x hx
        exact ⟨ix.unit.mono (by omega), ix.first, ix.cls⟩
      have hu' := unit_gerund hx iu.cls (c1.mono (by omega)) c2
      refine ⟨by rw [p_agenda]; exact ⟨_, _, rfl, .inr ⟨rfl, by decide⟩⟩, rfl, fun h => (by cases h), ?_, by rw [p_agenda]; exact NV.other (k := 7) rfl (by decide)⟩
      rw [p_agenda]
      exact hu'.mono (by omega)
  | hook k u v hk hu hv iu iv =>
    have iu : PV u := iu
    have iv : PV v := iv
    have hh := m2 k u v
    have hv1 := iv.unit.brk iv.first iv.cls (Pp.begins v && ends u)
    have hf1 := iv.first.brk (Pp.begins v && ends u)
    rcases hk with rfl | rfl
    · refine PV.of_prim (by rw [p_hook]; exact ⟨_, _, rfl, .inr ⟨rfl, by decide⟩⟩) rfl ?_ (by rw [p_hook]; exact NV.other (k := 7) rfl (by decide))
      rw [p_hook]
      exact (prim_hook (d := 2 * (made 44 [u, v]).height - 1) (iu.unit.mono (by omega)) iu.first iu.cls (hv1.mono (by omega)) hf1 iv.cls).mono (by omega)
    · refine PV.of_prim (by rw [p_cap]; exact ⟨_, _, rfl, .inr ⟨rfl, by decide⟩⟩) rfl ?_ (by rw [p_cap]; exact NV.other (k := 7) rfl (by decide))
      rw [p_cap]
      exact (prim_cap (d := 2 * (made 46 [u, v]).height - 1) (iu.unit.mono (by omega)) iu.first iu.cls (hv1.mono (by omega)) hf1 iv.cls).mono (by omega)
  | fork u v z hu hv hz iu iv iz =>
    have iu : PV u := iu
    have iv : PV v := iv
    have iz : PV z := iz
    have hh := m3 45 u v z
    have hv1 := iv.unit.brk iv.first iv.cls (Pp.begins v && ends u)
    have hf1 := iv.first.brk (Pp.begins v && ends u)
    have hv2 := iz.unit.brk iz.first iz.cls (Pp.begins z && ends v)
    have hf2 := iz.first.brk (Pp.begins z && ends v)
    refine PV.of_prim (by rw [p_fork]; exact ⟨_, _, rfl, .inr ⟨rfl, by decide⟩⟩) rfl ?_ (by rw [p_fork]; exact NV.other (k := 7) rfl (by decide))
    rw [p_fork]
    exact (prim_fork (d := 2 * (made 45 [u, v, z]).height - 1) (iu.unit.mono (by omega)) iu.first iu.cls (hv1.mono (by omega)) hf1 iv.cls (hv2.mono (by omega)) hf2 iz.cls).mono (by omega)
end Pp
end Go.Proofs.YtboondbognbnnaaGreatDoor
