/- Package term: kids. -/
import Derived.Test.YtnnhbpgpkpbinaaGreatTerm7
import Derived.StillTailTactics
namespace Go.Proofs.YtnnhbpgpkpbinaaGreat
open Go.RowKit

theorem T.isOf_isK (t : T) (c : UInt8) : T.isOf t c = T.isK t.kind t.text.data.toList c.toNat := by
  have h : ∀ n : Nat, n < 256 → (((c.toNat : Int) = (n : Int)) ↔ c = UInt8.ofNat n) := by
    intro n hn
    constructor
    · intro h
      have : c.toNat = n := by omega
      rw [← this]; simp
    · rintro rfl; simp; omega
  unfold T.isOf T.isK
  have h1 := h 110 (by omega)
  have h2 := h 118 (by omega)
  have h3 := h 98 (by omega)
  have h4 := h 111 (by omega)
  simp only [show ((110 : Nat) : Int) = 110 from rfl, show ((118 : Nat) : Int) = 118 from rfl, show ((98 : Nat) : Int) = 98 from rfl, show ((111 : Nat) : Int) = 111 from rfl] at h1 h2 h3 h4
  simp only [h1, h2, h3, h4]
  rfl

/-- the contract -/
def KidsPost (t : T) (w : World) (e : Ending) (w' : World) : Prop := e = .returned (.bool t.kidsOk) ∧ Below w.heap.size w w'
theorem KidsPost.mk' {t : T} {w w' : World} {b : Bool} (h : b = t.kidsOk) (hb : Below w.heap.size w w') : KidsPost t w (.returned (.bool b)) w' := ⟨by rw [h], hb⟩
/-- the kids ahead of k are each of its letter -/
def okTill (l : List T) (p : Nat → UInt8) (k : Nat) : Prop := ∀ i u, i < k → l[i]? = some u → T.isOf u (p i) = true
theorem okTill_zero (l : List T) (p : Nat → UInt8) : okTill l p 0 := fun i u h => absurd h (by omega)
theorem okTill_succ {l : List T} {p : Nat → UInt8} {k : Nat} {u : T} (h : okTill l p k) (hu : l[k]? = some u) (hi : T.isOf u (p k) = true) : okTill l p (k + 1) := by
  intro i v hlt hv
  by_cases e : i = k
  · subst e; rw [hu] at hv; injection hv with hv; subst hv; exact hi
  · exact h i v (by omega) hv
theorem okTill_all {l : List T} {c : UInt8} (h : okTill l (fun _ => c) l.length) : l.all (T.isOf · c) = true := by
  rw [List.all_eq_true]
  intro u hu
  obtain ⟨i, hi⟩ := List.mem_iff_getElem?.1 hu
  exact h i u (List.getElem?_eq_some_iff.1 hi).1 hi
theorem not_all {l : List T} {c : UInt8} {k : Nat} {u : T} (hu : l[k]? = some u) (hi : T.isOf u c = false) : l.all (T.isOf · c) = false := by
  rw [List.all_eq_false]
  exact ⟨u, List.mem_of_getElem? hu, by simp [hi]⟩
theorem allOf_okTill : ∀ {p : List UInt8} {l : List T}, l.length = p.length → okTill l (fun i => p.getD i 0) l.length → T.allOf l p = true
  | [], [], _, _ => rfl
  | c :: p, t :: l, hl, h => by
    simp only [T.allOf, Bool.and_eq_true]
    exact ⟨h 0 t (by simp) rfl, allOf_okTill (by simpa using hl) (fun i u hi hu => h (i + 1) u (by simpa using hi) (by simpa using hu))⟩
theorem not_allOf : ∀ {p : List UInt8} {l : List T} {k : Nat} {u : T}, l[k]? = some u → T.isOf u (p.getD k 0) = false → T.allOf l p = false
  | [], t :: l, _, _, _, _ => rfl
  | [], [], _, _, h, _ => by simp at h
  | c :: p, [], _, _, h, _ => by simp at h
  | c :: p, t :: l, 0, u, h, hi => by simp at h; subst h; simp only [List.getD_cons_zero] at hi; simp [T.allOf, hi]
  | c :: p, t :: l, k + 1, u, h, hi => by
    have := not_allOf (p := p) (l := l) (k := k) (u := u) (by simpa using h) (by simpa using hi)
    simp [T.allOf, this]
theorem allOf_len : ∀ {p : List UInt8} {l : List T}, l.length ≠ p.length → T.allOf l p = false
  | [], [], h => absurd rfl h
  | [], t :: l, _ => rfl
  | c :: p, [], _ => rfl
  | c :: p, t :: l, h => by
    have := allOf_len (p := p) (l := l) (by simpa using h)
    simp [T.allOf, this]

/-- is, its answer known -/
theorem is_known {u : T} {y : TV} {c : UInt8} {v : Bool} (hk : y.kind = u.kind) (ht : y.text = u.text) (hv : T.isOf u c = v) (W : World) :
    Calls Tryz.prog 78 #[.agg #[.int .i64 y.kind, .string y.text, .int .i64 y.n, .slice y.sa y.sl y.sc, .slice y.aa y.al y.ac, .slice y.ka y.kl y.kc], .int .u8 c.toNat] W fun e w' => e = .returned (.bool v) ∧ Below W.heap.size W w' := by
  have h := is_calls y c.toNat W
  rw [hk, ht, ← T.isOf_isK, hv] at h
  exact h
theorem Below.step {B : Nat} {w wr w2 : World} {o : Obj} (h : Below B w wr) (hB : B ≤ wr.heap.size) (h2 : Below (wr.heap.size + 1) (wr.alloc o) w2) : Below B w w2 :=
  (h.alloc hB o).trans (h2.mono (by omega))

set_option maxHeartbeats 4000000 in
theorem kids_s (t : T) (x : TV) (tb to B : Nat) (w : World) (hr : Rep w B t x) (hat : At w tb to x) (hB : B ≤ w.heap.size) (hp : T.pattern x.kind = [115]) :
    Calls Tryz.prog 66 #[.pointer (some ⟨tb, to, none⟩)] w (KidsPost t w) := by
  obtain ⟨t0, t1, t2, t3, t4, t5⟩ := hat
  clear t1 t2 t3 t4
  have HK := Lib.hid (show t.kidsOk = t.kids.all (T.isOf · 115) from by rw [T.kidsOk, ← hr.kind, hp]; rfl)
  have HP := Lib.hid (show ∀ W, Calls Tryz.prog 77 #[.int .i64 x.kind] W fun e w' => e = .returned (.string ⟨#[115]⟩) ∧ W = w' from fun W => by have := pattern_calls x.kind W; rw [hp] at this; exact this)
  have HL := Lib.hid hr.kl
  have hk1 : x.kl ≤ 2199023255552 := hr.wee.l1
  have HR := Lib.hid hr
  clear hp hr
  go_enter Tryz.func66, Tryz.ntmps66
  go_wp2_with (go_at_call 77; refine (HP.out _).mono ?_; rintro e w1 ⟨rfl, rfl⟩)
  go_loopw [23] (fun i wr => ∃ k : Nat, k ≤ x.kl ∧ i = .int .i64 k ∧ Hid (okTill t.kids (fun _ => 115) k) ∧ Below w.heap.size w wr) (fun i _ => x.kl - (intOf i).toNat)
  case atStart => exact ⟨0, Nat.zero_le _, rfl, okTill_zero _ _, Below.refl _ _⟩
  case round =>
    obtain ⟨k, hk, rfl, hok, hbel⟩ := hrel
    by_cases hlt : k < x.kl
    · obtain ⟨u, hu⟩ : ∃ u, t.kids[k]? = some u := ⟨t.kids[k]'(by rw [← HL.out]; exact hlt), by simp⟩
      obtain ⟨b, o, y, he, hb, hat, hru⟩ := HR.out.kid hu
      have hat' := hat.keep hb (Keeps.of_below hbel hB)
      have HU := Lib.hid hu
      have hbw : b < wr.heap.size := by have := hbel.size; omega
      obtain ⟨c0, c1, c2, c3, c4, c5⟩ := hat'
      have HB := Lib.hid hbel
      rw [he]
      cases hv : T.isOf u 115
      all_goals
        have HC := Lib.hid (is_known (y := y) (c := 115) hru.kind hru.text hv)
        have HV := Lib.hid hv
        clear hu hat hru he hbel hv
        go_wp2_with (go_at_call 78; refine (HC.out _).mono ?_; rintro e w2 ⟨rfl, hb2⟩)
        have HB2 := Lib.hid (Below.step HB.out (HB.out.size) (by simpa using hb2))
        clear hb2 c0 c1 c2 c3 c4 c5
      · go_ret
        exact KidsPost.mk' (by rw [HK.out, not_all HU.out HV.out]) HB2.out
      · go_roundw
        case rel => exact ⟨k + 1, by omega, by go_num, okTill_succ hok.out HU.out HV.out, HB2.out⟩
        case measure => simp [intOf]; omega
    · obtain rfl : k = x.kl := by omega
      have HB := Lib.hid hbel
      clear hbel
      go_wp2_with fail
      go_ret
      exact KidsPost.mk' (by rw [HK.out, okTill_all (by rw [← HL.out]; exact hok.out)]) HB.out
end Go.Proofs.YtnnhbpgpkpbinaaGreat
