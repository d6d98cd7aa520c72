/- Package print: puts behind one another; terms at a place; what begins or ends with a number. Package print: what ends with a number, what begins with one, what wants brackets; marks. Package print: between. Package print: numbers. -/
import Derived.Test.YtboondbognbnnaaGreatDoorQQqA
import Derived.Defers
set_option linter.unusedVariables false
set_option linter.unusedSimpArgs false
namespace Go.Proofs.YtboondbognbnnaaGreatDoor
open Go.RowKit
structure Done (B b : Nat) (l out : List UInt8) (w w' : World) : Prop where
  below : Below B w w'
  other : Other w w'
  le : (l ++ out).length ≤ 1048576
  box : Wr B b (l ++ out) w'
structure Dead (B b : Nat) (l out : List UInt8) (w : World) (ps : List PanicEntry) (w' : World) : Prop where
  below : Below B w w'
  other : Other w w'
  gt : 1048576 < (l ++ out).length
  box : ∃ qs l', ps = tooE :: qs ∧ l'.length ≤ 1048576 ∧ Wr B b l' w' ∧ Calm qs
section
variable {B b : Nat} {l out o2 : List UInt8} {w w1 w2 : World} {e : Ending} {ps : List PanicEntry}
theorem Puts.two (h : Puts B b l out w e w1) : (e = .returned (.tuple #[]) ∧ Done B b l out w w1) ∨ ∃ ps, e = .panicked ps ∧ Dead B b l out w ps w1 := by
  rcases h.ends with ⟨h1, h2, h3⟩ | ⟨h1, ps, l', h2, h3, h4⟩
  · exact .inl ⟨h2, h.below, h.other, by rw [List.length_append]; exact h1, h3⟩
  · exact .inr ⟨_, h2, h.below, h.other, by rw [List.length_append]; exact h1, ps, l', rfl, h3, h4⟩
theorem Done.puts (h : Done B b l out w w1) : Puts B b l out w (.returned (.tuple #[])) w1 := ⟨h.below, h.other, .inl ⟨by have := h.le; rw [List.length_append] at this; exact this, rfl, h.box⟩⟩
theorem Dead.puts (h : Dead B b l out w ps w1) : Puts B b l out w (.panicked ps) w1 := by
  obtain ⟨qs, l', h1, h2, h3⟩ := h.box
  exact ⟨h.below, h.other, .inr ⟨by have := h.gt; rw [List.length_append] at this; exact this, qs, l', by rw [h1], h2, h3⟩⟩
theorem Done.then (h : Done B b l out w w1) (k : Done B b (l ++ out) o2 w1 w2) : Done B b l (out ++ o2) w w2 := ⟨h.below.trans k.below, h.other.trans k.other, by rw [← List.append_assoc]; exact k.le, by rw [← List.append_assoc]; exact k.box⟩
theorem Done.dead (h : Done B b l out w w1) (k : Dead B b (l ++ out) o2 w1 ps w2) : Dead B b l (out ++ o2) w ps w2 := ⟨h.below.trans k.below, h.other.trans k.other, by rw [← List.append_assoc]; exact k.gt, k.box⟩
theorem Dead.more (h : Dead B b l out w ps w1) (o2 : List UInt8) : Dead B b l (out ++ o2) w ps w1 := ⟨h.below, h.other, by have := h.gt; simp only [List.length_append] at this ⊢; omega, h.box⟩
theorem Done.start (hW : Wr B b l w) (hl : l.length ≤ 1048576) : Done B b l [] w w := ⟨Below.refl _ _, Other.refl _, by simpa using hl, by simpa using hW⟩
theorem Wr.later (h : Wr B b l w) (hb : Below w.heap.size w w1) : Wr B b l w1 := by
  have key : ∀ p, Lib.BuilderAt WT 5 B b p (Lib.byteCells l) w → Lib.BuilderAt WT 5 B b p (Lib.byteCells l) w1 := by
    intro p hp
    have hlt := hp.lt
    obtain ⟨h1, v, h2, h3, h4⟩ := hp
    refine ⟨h1, v, (hb.block b hlt).trans h2, ⟨h3.1, ?_⟩, h4⟩
    rcases h3.2 with h5 | ⟨g, cap, cur, h5, h6, h7, h8⟩
    · exact .inl h5
    · refine .inr ⟨g, cap, cur, h5, h6, (hb.block g ?_).trans h7, h8⟩
      rcases Nat.lt_or_ge g w.heap.size with h' | h'
      · exact h'
      · simp [Array.getElem?_eq_none h'] at h7
  rcases h with h | h
  · exact .inl (key _ h)
  · exact .inr (key _ h)
theorem Done.later (h : Done B b l out w w1) (hB : B ≤ w.heap.size) (hb : Below w1.heap.size w1 w2) : Done B b l out w w2 :=
  ⟨h.below.trans (hb.mono (Nat.le_trans hB h.below.size)), h.other.trans (Other.of_below hb), h.le, h.box.later hb⟩
end
/-- one text is put -/
theorem put1 {B b : Nat} {l : List UInt8} {w : World} (s : ByteArray) (hW : Wr B b l w) (hl : l.length ≤ 1048576) (hB : B ≤ w.heap.size) (hs : s.size ≤ 140737488355328 - 1048576) :
    Calls Tryz.prog 78 #[ptr b 0, .slice (some ⟨w.heap.size, 0, none⟩) 1 1] (w.alloc (.cells #[.string s] 9)) (Puts B b l s.data.toList w) := by
  have ha : Below w.heap.size w (w.alloc (.cells #[.string s] 9)) := (Below.refl _ _).alloc (Nat.le_refl _) _
  have hr : SRow w.heap.size [s] (w.alloc (.cells #[.string s] 9)) := ⟨#[.string s], heap_alloc_new w _, fun i t hi => by
    cases i with
    | zero => simp at hi; subst hi; rfl
    | succ i => simp at hi⟩
  refine (put_calls B b w.heap.size 1 1 l [s] _ rfl (Nat.le_trans hB ha.size) (hW.later ha) hl hr (fun t ht => by rw [List.mem_singleton.1 ht]; exact hs) (by decide)).mono ?_
  intro e w' h
  have e1 : cat [s] = s.data.toList := by simp [cat]
  rw [e1] at h
  exact ⟨(ha.mono hB).trans h.below, (Other.of_below ha).trans h.other, h.ends⟩
/-- two texts are put -/
theorem put2 {B b : Nat} {l : List UInt8} {w : World} (s t : ByteArray) (hW : Wr B b l w) (hl : l.length ≤ 1048576) (hB : B ≤ w.heap.size) (hs : s.size ≤ 140737488355328 - 1048576) (ht : t.size ≤ 140737488355328 - 1048576) :
    Calls Tryz.prog 78 #[ptr b 0, .slice (some ⟨w.heap.size, 0, none⟩) 2 2] (w.alloc (.cells #[.string s, .string t] 9)) (Puts B b l (s.data.toList ++ t.data.toList) w) := by
  have ha : Below w.heap.size w (w.alloc (.cells #[.string s, .string t] 9)) := (Below.refl _ _).alloc (Nat.le_refl _) _
  have hr : SRow w.heap.size [s, t] (w.alloc (.cells #[.string s, .string t] 9)) := ⟨#[.string s, .string t], heap_alloc_new w _, fun i u hi => by
    match i with
    | 0 => simp at hi; subst hi; rfl
    | 1 => simp at hi; subst hi; rfl
    | i + 2 => simp at hi⟩
  refine (put_calls B b w.heap.size 2 2 l [s, t] _ rfl (Nat.le_trans hB ha.size) (hW.later ha) hl hr (fun u hu => by
    rcases List.mem_cons.1 hu with rfl | hu
    · exact hs
    · rw [List.mem_singleton.1 hu]; exact ht) (by decide)).mono ?_
  intro e w' h
  have e1 : cat [s, t] = s.data.toList ++ t.data.toList := by simp [cat]
  rw [e1] at h
  exact ⟨(ha.mono hB).trans h.below, (Other.of_below ha).trans h.other, h.ends⟩
/-- a term at a place, below block B -/
structure TAt (B : Nat) (t : T) (p o : Nat) (x : TV) (w : World) : Prop where
  at_ : At w p o x
  lt : p < B
  rep : Rep w B t x
theorem TAt.below {B p o : Nat} {t : T} {x : TV} {w w' : World} (h : TAt B t p o x w) (hb : Below B w w') : TAt B t p o x w' := ⟨h.at_.keep h.lt (Keeps.of_below hb (Nat.le_refl _)), h.lt, h.rep.below hb (Nat.le_refl _)⟩
theorem TAt.kid {B p o : Nat} {t : T} {x : TV} {w : World} (h : TAt B t p o x w) {j : Nat} {u : T} (hj : t.kids[j]? = some u) : ∃ q r y, x.ka = some ⟨q, r, none⟩ ∧ TAt B u q (r + j * 6) y w := by
  obtain ⟨q, r, y, h1, h2, h3, h4⟩ := h.rep.kid hj
  exact ⟨q, r, y, h1, h3, h2, h4⟩
theorem TAt.kind {B p o : Nat} {t : T} {x : TV} {w : World} (h : TAt B t p o x w) : w.cell? ⟨p, o, none⟩ = some (.int .i64 t.kind) := by rw [← h.rep.kind]; exact h.at_.c0
theorem TAt.text {B p o : Nat} {t : T} {x : TV} {w : World} (h : TAt B t p o x w) : w.cell? ⟨p, o + 1, none⟩ = some (.string t.text) := by rw [← h.rep.text]; exact h.at_.c1
theorem TAt.n {B p o : Nat} {t : T} {x : TV} {w : World} (h : TAt B t p o x w) : w.cell? ⟨p, o + 2, none⟩ = some (.int .i64 t.n) := by rw [← h.rep.n]; exact h.at_.c2
/-- the kids' slice, its capacity aside -/
theorem TAt.kids {B p o : Nat} {t : T} {x : TV} {w : World} (h : TAt B t p o x w) {u : T} {l : List T} (hl : t.kids = u :: l) : ∃ q r cap, w.cell? ⟨p, o + 5, none⟩ = some (.slice (some ⟨q, r, none⟩) (l.length + 1) cap) ∧ l.length + 1 ≤ cap ∧
    ∀ (j : Nat) (v : T), t.kids[j]? = some v → ∃ y, TAt B v q (r + j * 6) y w := by
  obtain ⟨q, r, y, h1, h2⟩ := h.kid (j := 0) (u := u) (by rw [hl]; rfl)
  have hk := h.rep.kl
  rw [hl, List.length_cons] at hk
  refine ⟨q, r, x.kc, by rw [← hk, ← h1]; exact h.at_.c5, by rw [← hk]; exact h.rep.wee.l0, fun j v hj => ?_⟩
  obtain ⟨q', r', y', h3, h4⟩ := h.kid hj
  rw [h1] at h3
  cases h3
  exact ⟨y', h4⟩
def BeginsAt (t : T) : Prop := ∀ (B p o : Nat) (x : TV) (w : World), TAt B t p o x w → Calls Tryz.prog 122 #[ptr p o] w fun e w' => e = .returned (.bool (Pp.begins t)) ∧ Below w.heap.size w w'
set_option maxRecDepth 100000 in
/-- kinds that do not begin with a number -/
theorem begins_no {t : T} (hk : t.kind = 20 ∨ t.kind = 21 ∨ t.kind = 23 ∨ t.kind = 44 ∨ t.kind = 45 ∨ t.kind = 46) : BeginsAt t := by
  intro B p o x w ht
  have hb : Pp.begins t = false := by
    obtain ⟨k, s, n, sh, a, l⟩ := t
    simp only [T.kind_mk] at hk
    rw [Pp.begins_mk]
    rcases hk with rfl | rfl | rfl | rfl | rfl | rfl <;> rfl
  have c0 := ht.kind
  rw [hb]
  clear ht hb
  rcases hk with hk | hk | hk | hk | hk | hk <;> rw [hk] at c0 <;> clear hk
  all_goals
    go_enter Tryz.func122, Tryz.ntmps122
    go_wp2_with fail
    go_ret
    exact ⟨rfl, Below.refl _ _⟩
set_option maxRecDepth 100000 in
/-- kinds that begin as their noun does -/
theorem begins_op {k : Int} {u : T} {l : List T} (hk : k = 22 ∨ k = 39) : BeginsAt (Pz.made k (u :: l)) := by
  intro B p o x w ht
  have hb : Pp.begins (Pz.made k (u :: l)) = (u.kind == 1) := by rcases hk with rfl | rfl <;> simp [Pz.made, Pp.begins_mk, Pp.kindAt]
  have c0 := ht.kind
  obtain ⟨q, r, cap, c5, hcap, hkid⟩ := ht.kids (u := u) (l := l) rfl
  obtain ⟨y, hy⟩ := hkid 0 u rfl
  have k0 := hy.kind
  rw [Nat.zero_mul, Nat.add_zero] at k0
  have hlen : (0 : Int) < ((l.length + 1 : Nat) : Int) := by omega
  rw [hb]
  clear ht hb hkid hy
  simp only [Pz.made, T.kind_mk] at c0
  rcases hk with rfl | rfl
  all_goals
    go_enter Tryz.func122, Tryz.ntmps122
    go_wp2_with fail
    go_ret
    exact ⟨rfl, Below.refl _ _⟩
set_option maxRecDepth 100000 in
/-- kinds that begin as their first verb does -/
theorem begins_rec {t u : T} {l : List T} (h22 : t.kind ≠ 22) (h39 : t.kind ≠ 39) (h43 : t.kind ≠ 43) (hw : Pp.whole t.kind = false) (hl : t.kids = u :: l) (ih : BeginsAt u) : BeginsAt t := by
  intro B p o x w ht
  have hb : Pp.begins t = Pp.begins u := by
    obtain ⟨k, s, n, sh, a, l'⟩ := t
    simp only [T.kind_mk, T.kids_mk] at h22 h39 h43 hw hl
    subst hl
    rw [Pp.begins_mk, if_neg (by omega), if_neg (by rw [hw]; decide), if_neg h43]
    simp [Pp.beginsAt]
  have c0 := ht.kind
  obtain ⟨q, r, cap, c5, hcap, hkid⟩ := ht.kids hl
  obtain ⟨y, hy⟩ := hkid 0 u (by rw [hl]; rfl)
  rw [Nat.zero_mul, Nat.add_zero] at hy
  have HI := Lib.hid (fun (w1 : World) (h : Below w.heap.size w w1) => ih B q r y w hy)
  have HC := Lib.hid (ih B q r y w hy)
  have hlen : (0 : Int) < ((l.length + 1 : Nat) : Int) := by omega
  simp only [Pp.whole, Bool.or_eq_false_iff] at hw
  obtain ⟨⟨⟨⟨⟨e20, e21⟩, e23⟩, e44⟩, e45⟩, e46⟩ := hw
  have e22 : (t.kind == 22) = false := by simpa using h22
  have e39 : (t.kind == 39) = false := by simpa using h39
  have e43 : (t.kind == 43) = false := by simpa using h43
  rw [hb]
  generalize t.kind = k at *
  clear ht hb hkid hy HI hl ih h22 h39 h43
  go_enter Tryz.func122, Tryz.ntmps122
  go_wp2_with (first
    | (go_at_call 122; refine HC.out.mono ?_; rintro e w' ⟨rfl, hb⟩))
  go_ret
  exact ⟨rfl, hb⟩
set_option maxRecDepth 100000 in
theorem begins_agenda {u v : T} {l : List T} (ih : BeginsAt v) : BeginsAt (Pz.made 43 (u :: v :: l)) := by
  intro B p o x w ht
  have hb : Pp.begins (Pz.made 43 (u :: v :: l)) = (((v :: l).length + 1 : Nat) == 2 && Pp.begins v) := by simp [Pz.made, Pp.begins_mk, Pp.whole, Pp.beginsAt]
  have c0 := ht.kind
  obtain ⟨q, r, cap, c5, hcap, hkid⟩ := ht.kids (u := u) (l := v :: l) rfl
  obtain ⟨y, hy⟩ := hkid 1 v rfl
  have HC := Lib.hid (ih B q (r + 1 * 6) y w hy)
  have hlen : (0 : Int) < (((v :: l).length + 1 : Nat) : Int) := by omega
  have hlen1 : (1 : Int) < (((v :: l).length + 1 : Nat) : Int) := by simp only [List.length_cons]; omega
  rw [hb]
  generalize (v :: l).length + 1 = m at *
  clear ht hb hkid hy ih
  simp only [Pz.made, T.kind_mk] at c0
  by_cases h2 : m = 2
  · subst h2
    go_enter Tryz.func122, Tryz.ntmps122
    go_wp2_with (first
      | (go_at_call 122; refine HC.out.mono ?_; rintro e w' ⟨rfl, hb⟩))
    go_ret
    exact ⟨rfl, hb⟩
  · have e2 : ((m : Int) == 2) = false := by simp; omega
    have e3 : (m == 2) = false := by simpa using h2
    rw [e3]
    go_enter Tryz.func122, Tryz.ntmps122
    go_wp2_with fail
    go_ret
    exact ⟨rfl, Below.refl _ _⟩
theorem begins_all {c : Nat} {t : T} (h : Pp.G c t) : c = 0 → BeginsAt t := by
  induction h with
  | num | nam | mon | dy | pick | say | set | cond | loop | body => intro h; cases h
  | prim | name | defn | fork => intro _; exact begins_no (by simp [Pz.made])
  | const x hx hk ix => intro _; exact begins_op (.inl rfl)
  | adv k u hk hu iu => intro _; exact begins_rec (l := []) (by show k ≠ 22; omega) (by show k ≠ 39; omega) (by show k ≠ 43; omega) (by rcases hk with rfl | rfl | rfl | rfl <;> rfl) rfl (iu rfl)
  | conj k u v hk hu hv iu iv => intro _; exact begins_rec (l := [v]) (by show k ≠ 22; omega) (by show k ≠ 39; omega) (by show k ≠ 43; omega) (by rcases Pp.conj_cases hk with rfl | rfl | rfl | rfl | rfl | rfl | rfl | rfl | rfl | rfl | rfl <;> rfl) rfl (iu rfl)
  | bondL x v hx hk hv ix iv => intro _; exact begins_op (.inr rfl)
  | bondR k u x hk hu hx hkx iu ix => intro _; exact begins_rec (l := [x]) (by show k ≠ 22; omega) (by show k ≠ 39; omega) (by show k ≠ 43; omega) (by rcases hk with rfl | rfl <;> rfl) rfl (iu rfl)
  | rank a u hne ha hu iu => intro _; exact begins_rec (l := []) (by simp) (by simp) (by simp) rfl rfl (iu rfl)
  | agenda u v l hu hv hl iu iv il => intro _; exact begins_agenda (iv rfl)
  | hook k u v hk hu hv iu iv => intro _; exact begins_no (by show k = 20 ∨ k = 21 ∨ k = 23 ∨ k = 44 ∨ k = 45 ∨ k = 46; omega)
end Go.Proofs.YtboondbognbnnaaGreatDoor

namespace Go.Proofs.YtboondbognbnnaaGreatDoor
open Go.RowKit
def EndsAt (t : T) : Prop := ∀ (B p o : Nat) (x : TV) (w : World), TAt B t p o x w → Calls Tryz.prog 123 #[ptr p o] w fun e w' => e = .returned (.bool (Pp.ends t)) ∧ Below w.heap.size w w'
set_option maxRecDepth 100000 in
theorem ends_op {t u v : T} (hk : t.kind = 40 ∨ t.kind = 41) (hl : t.kids = [u, v]) : EndsAt t := by
  intro B p o x w ht
  have hb : Pp.ends t = (v.kind == 1) := by
    unfold Pp.ends
    rw [hl]
    rcases hk with hk | hk <;> simp [hk, Pp.kindAt]
  have c0 := ht.kind
  obtain ⟨q, r, cap, c5, hcap, hkid⟩ := ht.kids hl
  obtain ⟨y, hy⟩ := hkid 1 v (by rw [hl]; rfl)
  have k0 := hy.kind
  rw [hb]
  clear ht hb hkid hy
  simp only [List.length_cons, List.length_nil] at c5 hcap
  rcases hk with hk | hk <;> rw [hk] at c0 <;> clear hk
  all_goals
    go_enter Tryz.func123, Tryz.ntmps123
    go_wp2_with fail
    go_ret
    exact ⟨rfl, Below.refl _ _⟩
set_option maxRecDepth 100000 in
theorem ends_rest {t : T} (h40 : t.kind ≠ 40) (h41 : t.kind ≠ 41) : EndsAt t := by
  intro B p o x w ht
  have c0 := ht.kind
  have e40 : (t.kind == 40) = false := by simpa using h40
  have e41 : (t.kind == 41) = false := by simpa using h41
  by_cases h : t.kind = 22 ∨ t.kind = 42
  · have hb : Pp.ends t = true := by unfold Pp.ends; rw [if_pos h]
    rw [hb]
    rcases h with h | h <;> rw [h] at c0 <;> clear h h40 h41 ht hb e40 e41
    all_goals
      go_enter Tryz.func123, Tryz.ntmps123
      go_wp2_with fail
      go_ret
      exact ⟨rfl, Below.refl _ _⟩
  · have hb : Pp.ends t = false := by unfold Pp.ends; rw [if_neg h, if_neg (by omega)]
    have e22 : (t.kind == 22) = false := by simp; omega
    have e42 : (t.kind == 42) = false := by simp; omega
    rw [hb]
    generalize t.kind = k at c0 e22 e42 e40 e41
    clear h h40 h41 ht hb
    go_enter Tryz.func123, Tryz.ntmps123
    go_wp2_with fail
    go_ret
    exact ⟨rfl, Below.refl _ _⟩
theorem ends_all {t : T} (h : Pp.G 0 t) : EndsAt t := by
  cases h with
  | bondR k u x hk hu hx hkx => exact ends_op (u := u) (v := x) hk rfl
  | conj k u v hk hu hv => exact ends_rest (by show k ≠ 40; omega) (by show k ≠ 41; omega)
  | adv k u hk hu => exact ends_rest (by show k ≠ 40; omega) (by show k ≠ 41; omega)
  | hook k u v hk hu hv => exact ends_rest (by show k ≠ 40; omega) (by show k ≠ 41; omega)
  | _ => exact ends_rest (by simp [Pz.made]) (by simp [Pz.made])
set_option maxRecDepth 100000 in
set_option maxHeartbeats 1000000 in
theorem mark_calls {k : Int} (hk : Pp.IsMark k) (w : World) : Calls Tryz.prog 81 #[.int .i64 k] w fun e w' => e = .returned (.string ⟨(Pp.rn (Pp.mark k)).toArray⟩) ∧ w' = w := by
  have hk : k = 24 ∨ k = 25 ∨ k = 26 ∨ k = 27 ∨ k = 28 ∨ k = 29 ∨ k = 30 ∨ k = 31 ∨ k = 32 ∨ k = 33 ∨ k = 34 ∨ k = 35 ∨ k = 36 ∨ k = 37 ∨ k = 38 ∨ k = 40 ∨ k = 41 := by
    unfold Pp.IsMark at hk; omega
  rcases hk with rfl | rfl | rfl | rfl | rfl | rfl | rfl | rfl | rfl | rfl | rfl | rfl | rfl | rfl | rfl | rfl | rfl
  all_goals
    go_enter Tryz.func81, Tryz.ntmps81
    go_wp2_with fail
    go_ret
    exact ⟨rfl, rfl⟩
def FirstAt (t : T) : Prop := ∀ (B p o : Nat) (x : TV) (w : World), TAt B t p o x w → B ≤ w.heap.size → Calls Tryz.prog 159 #[ptr p o] w fun e w' => e = .returned (.bool (Pp.first t)) ∧ Below w.heap.size w w'
/-- does the verb of a noun stand between brackets? -/
def brOf (t : T) : Bool := Pp.bracketed t.kind t.kids
def BrAt (t : T) : Prop := ∀ (B p o : Nat) (x : TV) (w : World), TAt B t p o x w → B ≤ w.heap.size → Calls Tryz.prog 143 #[ptr p o] w fun e w' => e = .returned (.bool (brOf t)) ∧ Below w.heap.size w w'
set_option maxRecDepth 100000 in
set_option maxHeartbeats 4000000 in
theorem br_mon {v x : T} (hv : Pp.G 0 v) (hx : FirstAt x) : BrAt (Pz.made 3 [v, x]) := by
  intro B p o z w ht hB
  have hb : brOf (Pz.made 3 [v, x]) = (Pp.ends v && Pp.first x) := by simp [brOf, Pp.bracketed, Pz.made, Pp.endsAt, Pp.firstAt_eq]
  have c0 := ht.kind
  obtain ⟨q, r, cap, c5, hcap, hkid⟩ := ht.kids (u := v) (l := [x]) rfl
  obtain ⟨y0, hy0⟩ := hkid 0 v rfl
  obtain ⟨y1, hy1⟩ := hkid 1 x rfl
  rw [Nat.zero_mul, Nat.add_zero] at hy0
  have hpl : p < w.heap.size := Nat.lt_of_lt_of_le ht.lt hB
  have HC := Lib.hid (fun (w1 : World) (h : Below w.heap.size w w1) => (h.cell (p := ⟨p, o, none⟩) hpl).trans c0)
  have HX := Lib.hid (fun (w1 : World) (h : Below w.heap.size w w1) => hx B q (r + 1 * 6) y1 w1 (hy1.below (h.mono hB)) (Nat.le_trans hB h.size))
  have HY := Lib.hid (fun (w1 : World) (h : Below w.heap.size w w1) => ends_all hv B q r y0 w1 (hy0.below (h.mono hB)))
  rw [hb]
  simp only [Pz.made, T.kind_mk, List.length_cons, List.length_nil, Nat.zero_add, Nat.reduceAdd] at c0 c5 hcap HC
  clear ht hb hkid hy0 hy1 hpl
  obtain ⟨m, hm⟩ : ∃ m : Nat, m = 2 := ⟨2, rfl⟩
  obtain ⟨i, hi⟩ : ∃ i : Nat, i = 1 := ⟨1, rfl⟩
  rw [← hm] at c5 hcap
  have hw1 : IntKind.i64.wrap ((m : Int) - 1) = (i : Int) := by rw [IntKind.wrap_i64, hm, hi]; rfl
  have hi0 : (0 : Int) ≤ (i : Int) := by omega
  have hi1 : (i : Int) < (m : Int) := by omega
  have hi2 : i < m := by omega
  have hm0 : (0 : Int) < (m : Int) := by omega
  have hm1 : 0 < m := by omega
  rw [show r + 1 * 6 = r + i * 6 by rw [hi]] at HX
  clear hm hi
  cases he : Pp.ends v <;> cases hf : Pp.first x
  all_goals
    rw [he] at HY
    rw [hf] at HX
    go_enter Tryz.func143, Tryz.ntmps143
    go_wp2_with fail
    go_quiet (fail)
    have HD := Lib.hid (below_drewN (Below.refl w.heap.size w) nq)
    go_wp2_with (first
      | (go_at_call 123; refine (HY.out _ HD.out).mono ?_; rintro e w1 ⟨rfl, h1⟩; have HB1 := Lib.hid (HD.out.trans h1); have c0' := HC.out _ HB1.out; clear h1)
      | (go_at_call 159; refine (HX.out _ HB1.out).mono ?_; rintro e w2 ⟨rfl, h2⟩; have HB2 := Lib.hid (HB1.out.trans (h2.mono HB1.out.size)); have c0'' := HC.out _ HB2.out; clear h2))
    all_goals
      go_ret
      exact ⟨rfl, by first | exact HB2.out | exact HB1.out⟩
set_option maxRecDepth 100000 in
set_option maxHeartbeats 8000000 in
theorem br_dy {v x y : T} (hv : Pp.G 0 v) (hy : FirstAt y) : BrAt (Pz.made 4 [v, x, y]) := by
  intro B p o z w ht hB
  have hb : brOf (Pz.made 4 [v, x, y]) = (Pp.ends v && Pp.first y || Pp.begins v && x.kind == 1) := by simp [brOf, Pp.bracketed, Pz.made, Pp.endsAt, Pp.firstAt_eq, Pp.beginsAt_eq, Pp.kindAt]
  have c0 := ht.kind
  obtain ⟨q, r, cap, c5, hcap, hkid⟩ := ht.kids (u := v) (l := [x, y]) rfl
  obtain ⟨y0, hy0⟩ := hkid 0 v rfl
  obtain ⟨y1, hy1⟩ := hkid 1 x rfl
  obtain ⟨y2, hy2⟩ := hkid 2 y rfl
  have k1 := hy1.kind
  rw [Nat.zero_mul, Nat.add_zero] at hy0
  have hpl : p < w.heap.size := Nat.lt_of_lt_of_le ht.lt hB
  have hql : q < w.heap.size := Nat.lt_of_lt_of_le hy1.lt hB
  have HC := Lib.hid (fun (w1 : World) (h : Below w.heap.size w w1) => And.intro ((h.cell (p := ⟨p, o, none⟩) hpl).trans c0) (And.intro ((h.cell (p := ⟨p, o + 5, none⟩) hpl).trans c5) ((h.cell (p := ⟨q, r + 1 * 6, none⟩) hql).trans k1)))
  have HX := Lib.hid (fun (w1 : World) (h : Below w.heap.size w w1) => hy B q (r + 2 * 6) y2 w1 (hy2.below (h.mono hB)) (Nat.le_trans hB h.size))
  have HY := Lib.hid (fun (w1 : World) (h : Below w.heap.size w w1) => ends_all hv B q r y0 w1 (hy0.below (h.mono hB)))
  have HZ := Lib.hid (fun (w1 : World) (h : Below w.heap.size w w1) => begins_all hv rfl B q r y0 w1 (hy0.below (h.mono hB)))
  rw [hb]
  simp only [Pz.made, T.kind_mk, List.length_cons, List.length_nil, Nat.zero_add, Nat.reduceAdd] at c0 c5 hcap HC
  clear ht hb hkid hy0 hy1 hy2 hpl hql k1
  obtain ⟨m, hm⟩ : ∃ m : Nat, m = 3 := ⟨3, rfl⟩
  obtain ⟨i, hi⟩ : ∃ i : Nat, i = 2 := ⟨2, rfl⟩
  rw [← hm] at c5 hcap HC
  have hw1 : IntKind.i64.wrap ((m : Int) - 1) = (i : Int) := by rw [IntKind.wrap_i64, hm, hi]; rfl
  have hi0 : (0 : Int) ≤ (i : Int) := by omega
  have hi1 : (i : Int) < (m : Int) := by omega
  have hi2 : i < m := by omega
  have hm0 : (0 : Int) < (m : Int) := by omega
  have hm1 : 0 < m := by omega
  have hm2 : (1 : Int) < (m : Int) := by omega
  have hm3 : 1 < m := by omega
  rw [show r + 2 * 6 = r + i * 6 by rw [hi]] at HX
  clear hm hi
  cases he : Pp.ends v <;> cases hf : Pp.first y <;> cases hg : Pp.begins v <;> cases hk : (x.kind == 1)
  all_goals
    rw [he] at HY
    rw [hf] at HX
    rw [hg] at HZ
    go_enter Tryz.func143, Tryz.ntmps143
    go_wp2_with fail
    go_quiet (fail)
    have HD := Lib.hid (below_drewN (Below.refl w.heap.size w) nq)
    have HB2 := HD
    go_wp2_with (first
      | (go_at_call 123; refine (HY.out _ HD.out).mono ?_; rintro e w1 ⟨rfl, h1⟩; have HB1 := Lib.hid (HD.out.trans h1); have HB2 := HB1; obtain ⟨d0, d1, d2⟩ := HC.out _ HB1.out; clear h1)
      | (go_at_call 159; refine (HX.out _ HB2.out).mono ?_; rintro e w2 ⟨rfl, h2⟩; have HB3 := Lib.hid (HB2.out.trans (h2.mono HB2.out.size)); have HB2 := HB3; obtain ⟨d0, d1, d2⟩ := HC.out _ HB3.out; clear h2)
      | (go_at_call 122; refine (HZ.out _ HB2.out).mono ?_; rintro e w3 ⟨rfl, h3⟩; have HB4 := Lib.hid (HB2.out.trans (h3.mono HB2.out.size)); have HB2 := HB4; obtain ⟨d0, d1, d2⟩ := HC.out _ HB4.out; clear h3))
    all_goals
      go_ret
      exact ⟨rfl, HB2.out⟩
set_option maxRecDepth 100000 in
theorem first_plain {t : T} (hk : t.kind = 1 ∨ t.kind = 2 ∨ t.kind = 5) : FirstAt t := by
  intro B p o x w ht hB
  have hb : Pp.first t = (t.kind == 1) := by
    obtain ⟨k, s, n, sh, a, l⟩ := t
    simp only [T.kind_mk] at hk ⊢
    rw [Pp.first_mk]
    rcases hk with rfl | rfl | rfl <;> rfl
  have c0 := ht.kind
  rw [hb]
  clear ht hb
  rcases hk with hk | hk | hk <;> rw [hk] at c0 ⊢ <;> clear hk
  all_goals
    go_enter Tryz.func159, Tryz.ntmps159
    go_wp2_with fail
    go_ret
    exact ⟨rfl, Below.refl _ _⟩
set_option maxRecDepth 100000 in
set_option maxHeartbeats 4000000 in
theorem first_mon {v x : T} (hv : Pp.G 0 v) (hx : FirstAt x) : FirstAt (Pz.made 3 [v, x]) := by
  intro B p o z w ht hB
  have hb : Pp.first (Pz.made 3 [v, x]) = (Pp.begins v && !(brOf (Pz.made 3 [v, x]))) := by
    rw [Pp.first_mon]; simp [brOf, Pp.bracketed, Pz.made, Pp.endsAt, Pp.firstAt_eq]
  have c0 := ht.kind
  obtain ⟨q, r, cap, c5, hcap, hkid⟩ := ht.kids (u := v) (l := [x]) rfl
  obtain ⟨y0, hy0⟩ := hkid 0 v rfl
  rw [Nat.zero_mul, Nat.add_zero] at hy0
  have HY := Lib.hid (fun (w1 : World) (h : Below w.heap.size w w1) => begins_all hv rfl B q r y0 w1 (hy0.below (h.mono hB)))
  have HX := Lib.hid (fun (w1 : World) (h : Below w.heap.size w w1) => br_mon hv hx B p o z w1 (ht.below (h.mono hB)) (Nat.le_trans hB h.size))
  rw [hb]
  generalize brOf (Pz.made 3 [v, x]) = br at HX ⊢
  simp only [Pz.made, T.kind_mk, List.length_cons, List.length_nil, Nat.zero_add, Nat.reduceAdd] at c0 c5 hcap
  clear ht hb hkid hy0
  cases he : Pp.begins v <;> cases br
  all_goals
    rw [he] at HY
    go_enter Tryz.func159, Tryz.ntmps159
    go_wp2_with (first
      | (go_at_call 122; refine (HY.out _ (Below.refl _ _)).mono ?_; rintro e w1 ⟨rfl, h1⟩; have HB2 := Lib.hid h1; clear h1)
      | (go_at_call 143; refine (HX.out _ HB2.out).mono ?_; rintro e w2 ⟨rfl, h2⟩; have HB3 := Lib.hid (HB2.out.trans (h2.mono HB2.out.size)); have HB2 := HB3; clear h2))
    go_ret
    exact ⟨rfl, HB2.out⟩
set_option maxRecDepth 100000 in
set_option maxHeartbeats 4000000 in
theorem first_dy {v x y : T} (hx : FirstAt x) : FirstAt (Pz.made 4 [v, x, y]) := by
  intro B p o z w ht hB
  have hb : Pp.first (Pz.made 4 [v, x, y]) = (x.kind != 3 && x.kind != 4 && Pp.first x) := Pp.first_dy v x y
  have c0 := ht.kind
  obtain ⟨q, r, cap, c5, hcap, hkid⟩ := ht.kids (u := v) (l := [x, y]) rfl
  obtain ⟨y1, hy1⟩ := hkid 1 x rfl
  have k1 := hy1.kind
  have HX := Lib.hid (fun (w1 : World) (h : Below w.heap.size w w1) => hx B q (r + 1 * 6) y1 w1 (hy1.below (h.mono hB)) (Nat.le_trans hB h.size))
  rw [hb]
  simp only [Pz.made, T.kind_mk, List.length_cons, List.length_nil, Nat.zero_add, Nat.reduceAdd] at c0 c5 hcap
  clear ht hb hkid hy1
  cases he : (x.kind != 3) <;> cases hf : (x.kind != 4)
  all_goals
    have HB2 := Lib.hid (Below.refl w.heap.size w)
    go_enter Tryz.func159, Tryz.ntmps159
    go_wp2_with (first
      | (go_at_call 159; refine (HX.out _ HB2.out).mono ?_; rintro e w2 ⟨rfl, h2⟩; have HB3 := Lib.hid (HB2.out.trans (h2.mono HB2.out.size)); have HB2 := HB3; clear h2))
    all_goals
      go_ret
      exact ⟨rfl, HB2.out⟩
theorem first_all {c : Nat} {t : T} (h : Pp.G c t) : c = 1 → FirstAt t := by
  induction h with
  | num => intro _; exact first_plain (.inl rfl)
  | nam => intro _; exact first_plain (.inr (.inl rfl))
  | pick => intro _; exact first_plain (.inr (.inr rfl))
  | mon v x hv hx iv ix => intro _; exact first_mon hv (ix rfl)
  | dy v x y hv hx hy iv ix iy => intro _; exact first_dy (ix rfl)
  | _ => intro h; cases h
theorem br_all {t : T} (h : Pp.G 1 t) (hk : t.kind = 3 ∨ t.kind = 4) : BrAt t := by
  cases h with
  | mon v x hv hx => exact br_mon hv (first_all hx rfl)
  | dy v x y hv hx hy => exact br_dy hv (first_all hy rfl)
  | num => simp at hk
  | nam => simp at hk
  | pick => simp [Pz.made] at hk
end Go.Proofs.YtboondbognbnnaaGreatDoor

namespace Go.Proofs.YtboondbognbnnaaGreatDoor
open Go.RowKit
theorem put1D {B b : Nat} {l : List UInt8} {w1 : World} (s : ByteArray) {g : Nat} (hr : SRow g [s] w1) (hW : Wr B b l w1) (hl : l.length ≤ 1048576) (hB : B ≤ w1.heap.size) (hs : s.size ≤ 140737488355328 - 1048576) (u : FrameMode) :
    CallsD Tryz.prog 78 #[ptr b 0, .slice (some ⟨g, 0, none⟩) 1 1] u w1 fun e u' w' => u' = u ∧ Puts B b l s.data.toList w1 e w' := by
  have := (put_both B b g 1 1 l [s] w1 rfl hB hW hl hr (fun t ht => by rw [List.mem_singleton.1 ht]; exact hs) (by decide)).2 u
  have e1 : cat [s] = s.data.toList := by simp [cat]
  rw [e1] at this
  exact this
set_option maxRecDepth 100000 in
set_option maxHeartbeats 4000000 in
theorem between_calls {B b : Nat} {l o1 : List UInt8} {w : World} (so : Bool) {j : FuncId} {cap : Array Value} (hW : Wr B b l w) (hl : l.length ≤ 1048576) (hB : B ≤ w.heap.size)
    (hj : ∀ a w, (callFunc j a).run Tryz.prog w = .ok (.enter j a) w)
    (hF : ∀ l' w', Below B w w' → Other w w' → Wr B b l' w' → l'.length ≤ 1048576 → Calls Tryz.prog j cap w' (Puts B b l' o1 w')) :
    Calls Tryz.prog 117 #[ptr b 0, .bool so, .func (.func j) #[] cap] w (Puts B b l (if so then 40 :: o1 ++ [41] else o1) w) := by
  have HF := Lib.hid hF
  have HW := Lib.hid hW
  have HL := Lib.hid hl
  have HB := Lib.hid hB
  clear hF hW hl hB
  have hres : ∀ (t : Array Value) (w : World), (results Tryz.f117 t).run Tryz.prog w = .ok (.tuple #[]) w := fun _ _ => results_none rfl _ _ _
  cases so with
  | false =>
    go_enter_defers Tryz.func117, Tryz.ntmps117
    go_wp2_with fail
    refine (HF.out l w (Below.refl _ _) (Other.refl _) HW.out HL.out).mono ?_
    intro e w1 hp
    rcases hp.two with ⟨rfl, h1⟩ | ⟨ps, rfl, h1⟩
    · go_wp2_with fail
      exact ⟨_, hres _ _, h1.puts⟩
    · exact h1.puts
  | true =>
    go_enter_defers Tryz.func117, Tryz.ntmps117
    go_wp2_with fail
    refine (put1 ⟨#[40]⟩ HW.out HL.out HB.out (by decide)).mono ?_
    intro e w1 hp
    rcases hp.two with ⟨rfl, h1⟩ | ⟨ps, rfl, h1⟩
    · have H1 := Lib.hid h1
      clear hp h1
      go_wp2_with fail
      have ha : Below w1.heap.size w1 (w1.alloc (.cells #[.string ⟨#[41]⟩] 9)) := (Below.refl _ _).alloc (Nat.le_refl _) _
      have h2 := H1.out.later HB.out ha
      have hr : SRow w1.heap.size [⟨#[41]⟩] (w1.alloc (.cells #[.string ⟨#[41]⟩] 9)) := ⟨#[.string ⟨#[41]⟩], heap_alloc_new w1 _, fun i t hi => by
        cases i with
        | zero => simp at hi; subst hi; rfl
        | succ i => simp at hi⟩
      refine (HF.out (l ++ [40]) _ h2.below h2.other h2.box h2.le).mono ?_
      intro e w3 hp3
      have hB3 : B ≤ w3.heap.size := Nat.le_trans HB.out (Nat.le_trans h2.below.size hp3.below.size)
      have hr3 := hr.other hp3.other
      rcases hp3.two with ⟨rfl, h3⟩ | ⟨ps, rfl, h3⟩
      · go_wp2_with fail
        refine leaves_cons (by simp) (by rfl) ?_
        have h4 := h2.then h3
        refine CallsD.mono (put1D ⟨#[41]⟩ hr3 h4.box h4.le hB3 (by decide) _) ?_
        rintro e u' w4 ⟨rfl, hp4⟩
        rcases hp4.two with ⟨rfl, h5⟩ | ⟨ps, rfl, h5⟩
        · exact ⟨_, hres _ _, (h4.then h5).puts⟩
        · exact (h4.dead h5).puts
      · have h4 := h2.dead h3
        obtain ⟨qs, l', rfl, hl', hb', hq⟩ := h4.box
        refine leaves_cons (by simp) (by rfl) ?_
        refine CallsD.mono (put1D ⟨#[41]⟩ hr3 hb' hl' hB3 (by decide) _) ?_
        rintro e u' w4 ⟨rfl, hp4⟩
        have hgt := (h4.more [41]).gt
        rcases hp4.two with ⟨rfl, h5⟩ | ⟨ps, rfl, h5⟩
        · exact Dead.puts ⟨h4.below.trans h5.below, h4.other.trans h5.other, hgt, qs, _, rfl, h5.le, h5.box, hq⟩
        · obtain ⟨qs2, l2, rfl, h6, h7, hq2⟩ := h5.box
          exact Dead.puts ⟨h4.below.trans h5.below, h4.other.trans h5.other, hgt, qs2 ++ (tooE :: qs), l2, rfl, h6, h7, fun p hp => by
            rcases List.mem_append.1 hp with hp | hp
            · exact hq2 p hp
            · rcases List.mem_cons.1 hp with rfl | hp
              · rfl
              · exact hq p hp⟩
    · exact (h1.more (o1 ++ [41])).puts
end Go.Proofs.YtboondbognbnnaaGreatDoor

namespace Go.Proofs.YtboondbognbnnaaGreatDoor
open Go.RowKit
/-- the library's table of powers stands, and goes on standing -/
def Tabs (B : Nat) (w : World) : Prop := ∀ w', Below B w w' → Lib.TabIs Tryz.prog w' "internal/strconv.uint64pow10" .u64 Lib.pow10Tab
theorem Tabs.below {B : Nat} {w w' : World} (h : Tabs B w) (hb : Below B w w') : Tabs B w' := fun w2 h2 => h w2 (hb.trans h2)
theorem Tabs.at_ {B : Nat} {w : World} (h : Tabs B w) : Lib.TabIs Tryz.prog w "internal/strconv.uint64pow10" .u64 Lib.pow10Tab := h w (Below.refl _ _)
theorem nums_take (rank : Bool) {l : List Int} {k : Nat} {n : Int} (h : l[k]? = some n) : Pp.nums rank (l.take (k + 1)) = Pp.nums rank (l.take k) ++ ((if k = 0 then [] else [32]) ++ Pp.one rank n) := by
  have more : ∀ (l : List Int) (k : Nat) (n : Int), l[k]? = some n → Pp.more rank (l.take (k + 1)) = Pp.more rank (l.take k) ++ (32 :: Pp.one rank n) := by
    intro l
    induction l with
    | nil => intro k n h; simp at h
    | cons a r ih =>
      intro k n h
      cases k with
      | zero => simp at h; subst h; simp [Pp.more]
      | succ k => simp only [List.take_succ_cons, Pp.more]; rw [ih k n (by simpa using h)]; simp
  cases l with
  | nil => simp at h
  | cons a r =>
    cases k with
    | zero => simp at h; subst h; simp [Pp.nums, Pp.more]
    | succ k => simp only [List.take_succ_cons, Pp.nums]; rw [more r k n (by simpa using h)]; simp
theorem nums_le (rank : Bool) {l : List Int} {k : Nat} {n : Int} (h : l[k]? = some n) : ∃ o, Pp.nums rank l = Pp.nums rank (l.take (k + 1)) ++ o := by
  have : l = l.take (k + 1) ++ l.drop (k + 1) := by simp
  generalize hd : l.drop (k + 1) = d at this
  have app : ∀ (a b : List Int), ∃ o, Pp.more rank (a ++ b) = Pp.more rank a ++ o := by
    intro a b
    induction a with
    | nil => exact ⟨_, rfl⟩
    | cons x r ih => obtain ⟨o, ho⟩ := ih; exact ⟨o, by simp [Pp.more, ho]⟩
  cases l with
  | nil => simp at h
  | cons a r =>
    obtain ⟨o, ho⟩ := app (r.take k) (r.drop k)
    refine ⟨o, ?_⟩
    simp only [List.take_succ_cons, Pp.nums, List.append_assoc]
    rw [← ho, List.take_append_drop]
structure NumRel (B b : Nat) (l : List UInt8) (rank : Bool) (a : List Int) (w : World) (k : Nat) (w1 : World) : Prop where
  done : Done B b l (Pp.nums rank (a.take k)) w w1
theorem NumRel.dead {B b : Nat} {l : List UInt8} {rank : Bool} {a : List Int} {w w1 w2 : World} {k : Nat} {n : Int} {ps : List PanicEntry} {o1 o2 : List UInt8} (hn : a[k]? = some n) (he : (if k = 0 then [] else [32]) ++ Pp.one rank n = o1 ++ o2)
    (hd : Dead B b l (Pp.nums rank (a.take k) ++ o1) w ps w2) : Puts B b l (Pp.nums rank a) w (.panicked ps) w2 := by
  obtain ⟨o, ho⟩ := nums_le rank hn
  rw [nums_take rank hn, he] at ho
  have := hd.more (o2 ++ o)
  rw [ho]
  have e : Pp.nums rank (a.take k) ++ (o1 ++ o2) ++ o = Pp.nums rank (a.take k) ++ o1 ++ (o2 ++ o) := by simp
  rw [e]
  exact this.puts
theorem NumRel.next {B b : Nat} {l : List UInt8} {rank : Bool} {a : List Int} {w w2 : World} {k : Nat} {n : Int} {o1 o2 : List UInt8} (hn : a[k]? = some n) (he : (if k = 0 then [] else [32]) ++ Pp.one rank n = o1 ++ o2)
    (hd : Done B b l (Pp.nums rank (a.take k) ++ o1 ++ o2) w w2) : NumRel B b l rank a w (k + 1) w2 := ⟨by rw [nums_take rank hn, he, ← List.append_assoc]; exact hd⟩
theorem NumRel.dead2 {B b : Nat} {l : List UInt8} {rank : Bool} {a : List Int} {w w2 : World} {k : Nat} {n : Int} {ps : List PanicEntry} {o1 o2 : List UInt8} (hn : a[k]? = some n) (he : (if k = 0 then [] else [32]) ++ Pp.one rank n = o1 ++ o2)
    (hd : Dead B b l (Pp.nums rank (a.take k) ++ o1 ++ o2) w ps w2) : Puts B b l (Pp.nums rank a) w (.panicked ps) w2 :=
  NumRel.dead (o1 := o1 ++ o2) (o2 := []) (w1 := w) hn (by rw [he, List.append_nil]) (by rw [← List.append_assoc]; exact hd)
theorem one_size {rank : Bool} {n : Int} (h : Pz.inRange n = true) : (Pp.one rank n).length ≤ 21 := by
  unfold Pp.one
  split
  · simp
  · unfold Pp.dig
    simp only [Pz.inRange, Bool.and_eq_true, decide_eq_true_eq] at h
    have key : ∀ u : Nat, u < 18446744073709551616 → (Lib.decDigits u).length ≤ 20 := by
      intro u hu
      rw [Lib.decDigits_length]
      by_cases h0 : u = 0
      · subst h0; simp [Lib.nDigits]
      · have := Lib.numDigits_eq u (by omega) hu
        split at this <;> omega
    split
    · have := key n.natAbs (by omega); simp; omega
    · have := key n.toNat (by omega); omega
set_option maxRecDepth 100000 in
set_option maxHeartbeats 8000000 in
theorem numbers_calls {B b : Nat} {l : List UInt8} {w : World} (rank : Bool) (a : List Int) (sa aa : Option Addr) (sl sc al ac : Nat) (hW : Wr B b l w) (hl : l.length ≤ 1048576) (hB : B ≤ w.heap.size) (hT : Tabs B w)
    (ha : Ints w B aa al a) (hr : ∀ n ∈ a, Pz.inRange n = true) (hal : al ≤ 17592186044416) :
    Calls Tryz.prog 83 #[ptr b 0, .agg #[.slice sa sl sc, .slice aa al ac], .bool rank] w (Puts B b l (Pp.nums rank a) w) := by
  have HB := Lib.hid hB
  have HT := Lib.hid hT
  have HA := Lib.hid ha
  have HR := Lib.hid hr
  have HL := Lib.hid hal
  have H0 := Lib.hid (⟨by simpa [Pp.nums] using (Done.start hW hl)⟩ : NumRel B b l rank a w 0 w)
  clear hW hl hB hT ha hr hal
  cases rank
  all_goals
    go_enter Tryz.func83, Tryz.ntmps83
    go_wp2_with fail
    go_loopw [11] (fun i wr => ∃ k : Nat, k ≤ al ∧ i = .int .i64 k ∧ NumRel B b l _ a w k wr) (fun i _ => al - (intOf i).toNat)
    case atStart => exact ⟨0, Nat.zero_le _, rfl, ⟨H0.out.done.later HB.out ((Below.refl _ _).alloc (Nat.le_refl _) _)⟩⟩
    case round =>
      obtain ⟨k, hk, rfl, hrel⟩ := hrel
      have D0 := Lib.hid hrel.done
      clear hrel
      by_cases hlt : k < al
      · obtain ⟨n, hn⟩ : ∃ n, a[k]? = some n := ⟨a[k]'(by rw [HA.out.1]; exact hlt), by simp⟩
        obtain ⟨bb, o, rfl, hbb, hcell⟩ := HA.out.2 (by omega)
        have c0 : wr.cell? ⟨bb, o + k, none⟩ = some (.int .i64 n) := (D0.out.below.cell (p := ⟨bb, o + k, none⟩) hbb).trans (hcell k n hn)
        have HN := Lib.hid hn
        have HRn := Lib.hid (HR.out n (List.mem_of_getElem? hn))
        have HT' := Lib.hid hlt
        have HW := Lib.hid (show wrap64 ((k : Int) + 1) = (k : Int) + 1 from by have := HL.out; unfold wrap64; omega)
        have hw64 := HW.out
        have hk1 : (k : Int) < (al : Int) := by omega
        have hk2 : (0 : Int) ≤ (k : Int) := by omega
        clear hn hbb hcell
        have HQ := Lib.hid (show Pp.one true n = if n == 64 then [95] else Pp.dig n from rfl)
        have HQ2 := Lib.hid (show Pp.one false n = Pp.dig n from rfl)
        have HS := Lib.hid (show (Pp.dig n).length ≤ 21 from one_size (rank := false) HRn.out)
        cases h64 : (n == 64)
        all_goals
          rw [h64] at HQ
          simp only [Bool.false_eq_true, if_true, if_false] at HQ
          by_cases h0 : k = 0
          · have hg : ¬ (0 : Int) < (k : Int) := by omega
            have E0 := Lib.hid (show (if k = 0 then [] else [32] : List UInt8) = [] from if_pos h0)
            have D1 := Lib.hid (show Done B b l (Pp.nums _ (a.take k) ++ []) w wr from by rw [List.append_nil]; exact D0.out)
            clear h0 D0
            go_wp2_with fail
            first
            | (refine (digits_calls n HRn.out _ ((HT.out.below D1.out.below).at_)).mono ?_
               rintro e w2 ⟨rfl, h2⟩
               have D2 := Lib.hid (D1.out.later HB.out h2)
               clear h2
               go_wp2_with fail
               refine (put1 ⟨(Pp.dig n).toArray⟩ D2.out.box D2.out.le (Nat.le_trans HB.out D2.out.below.size) (Nat.le_trans HS.out (by decide))).mono ?_)
            | (have D2 := D1
               refine (put1 ⟨#[95]⟩ D2.out.box D2.out.le (Nat.le_trans HB.out D2.out.below.size) (by decide)).mono ?_)
            intro e w3 hp
            rcases hp.two with ⟨rfl, h3⟩ | ⟨ps, rfl, h3⟩
            · have D3 := Lib.hid (D2.out.then h3)
              clear hp h3
              go_wp2_with fail
              go_roundw
              case rel => exact ⟨k + 1, HT'.out, by go_num, NumRel.next HN.out (by rw [E0.out]; first | rw [HQ.out] | rw [HQ2.out]) D3.out⟩
              case measure => exact sp_meas (by first | exact Int.lt_succ _ | (rw [HW.out]; exact Int.lt_succ _)) (Int.natCast_nonneg _) (Int.ofNat_lt.2 HT'.out)
            · exact ⟨rfl, NumRel.dead2 HN.out (by rw [E0.out]; first | rw [HQ.out] | rw [HQ2.out]) (D2.out.dead h3)⟩
          · have hg : (0 : Int) < (k : Int) := by omega
            have E0 := Lib.hid (show (if k = 0 then [] else [32] : List UInt8) = [32] from if_neg h0)
            clear h0
            go_wp2_with fail
            refine (put1 ⟨#[32]⟩ D0.out.box D0.out.le (Nat.le_trans HB.out D0.out.below.size) (by decide)).mono ?_
            intro e w1 hp
            rcases hp.two with ⟨rfl, h1⟩ | ⟨ps, rfl, h1⟩
            · have D1 := Lib.hid (D0.out.then h1)
              clear hp h1 D0
              go_wp2_with fail
              first
              | (refine (digits_calls n HRn.out _ ((HT.out.below D1.out.below).at_)).mono ?_
                 rintro e w2 ⟨rfl, h2⟩
                 have D2 := Lib.hid (D1.out.later HB.out h2)
                 clear h2
                 go_wp2_with fail
                 refine (put1 ⟨(Pp.dig n).toArray⟩ D2.out.box D2.out.le (Nat.le_trans HB.out D2.out.below.size) (Nat.le_trans HS.out (by decide))).mono ?_)
              | (have D2 := D1
                 refine (put1 ⟨#[95]⟩ D2.out.box D2.out.le (Nat.le_trans HB.out D2.out.below.size) (by decide)).mono ?_)
              intro e w3 hp
              rcases hp.two with ⟨rfl, h3⟩ | ⟨ps, rfl, h3⟩
              · have D3 := Lib.hid (D2.out.then h3)
                clear hp h3
                go_wp2_with fail
                go_roundw
                case rel => exact ⟨k + 1, HT'.out, by go_num, NumRel.next HN.out (by rw [E0.out]; first | rw [HQ.out] | rw [HQ2.out]) D3.out⟩
                case measure => exact sp_meas (by first | exact Int.lt_succ _ | (rw [HW.out]; exact Int.lt_succ _)) (Int.natCast_nonneg _) (Int.ofNat_lt.2 HT'.out)
              · exact ⟨rfl, NumRel.dead2 HN.out (by rw [E0.out]; first | rw [HQ.out] | rw [HQ2.out]) (D2.out.dead h3)⟩
            · exact ⟨rfl, NumRel.dead (w1 := w1) HN.out (by rw [E0.out]) (D0.out.dead h1)⟩
      · obtain rfl : k = al := by omega
        go_wp2_with fail
        have hd := D0.out
        have e : a.take k = a := by rw [← HA.out.1]; simp
        rw [e] at hd
        exact bodyPost_end (results_none rfl _ _ _) rfl hd.puts
end Go.Proofs.YtboondbognbnnaaGreatDoor
