/- The law's EqDefs of lists that read alike. What a workspace's List answers: plain facts. Package space: List. -/
import Derived.Test.YtboondbognbnnaaGreatDoorQSE
import Derived.Deep.RegionHeld3
import Derived.Test.YtboondbognbnnaaGreatDoorQCt
set_option linter.unusedVariables false
set_option linter.unusedSimpArgs false
namespace Go.Proofs.YtboondbognbnnaaGreatDoor
open Go.RowKit
/-- a name's line, as nine cells -/
structure DefV where
  s : ByteArray
  t : TV
  a : AV
def DefV.cells (d : DefV) : Array Value := #[.string d.s, .int .i64 d.t.kind, .string d.t.text, .int .i64 d.t.n, .slice d.t.sa d.t.sl d.t.sc, .slice d.t.aa d.t.al d.t.ac, .slice d.t.ka d.t.kl d.t.kc, .slice d.a.sa d.a.sl d.a.sc, .slice d.a.aa d.a.al d.a.ac]
/-- what it reads as -/
structure DR where
  k : List UInt8
  t : T
  sh : List Int
  a : List Int
structure DefS (w : World) (S : Nat → Prop) (r : DR) (d : DefV) : Prop where
  s : d.s.data.toList = r.k
  sz : d.s.size ≤ 140737488355328
  t : RepS w S r.t d.t
  a : ARepS w S r.sh r.a d.a
theorem DefS.keep {w w' : World} {S S' : Nat → Prop} {r : DR} {d : DefV} (h : DefS w S r d) (hk : ∀ b o, S b → w'.cell? ⟨b, o, none⟩ = w.cell? ⟨b, o, none⟩) (hs : ∀ b, S b → S' b) : DefS w' S' r d :=
  ⟨h.s, h.sz, RepS.keep hk hs _ _ h.t, h.a.keep hk hs⟩
/-- a list of lines lies where a slice says -/
def DefsAt (w : World) (S : Nat → Prop) (A : Option Addr) (len : Nat) (L : List DR) : Prop :=
  L.length = len ∧ (0 < len → ∃ b o, A = some ⟨b, o, none⟩ ∧ S b ∧ ∀ (j : Nat) (r : DR), L[j]? = some r → ∃ d : DefV, DefS w S r d ∧ ∀ (i : Nat) (v : Value), d.cells[i]? = some v → w.cell? ⟨b, o + j * 9 + i, none⟩ = some v)
theorem DefsAt.keep {w w' : World} {S S' : Nat → Prop} {A : Option Addr} {len : Nat} {L : List DR} (h : DefsAt w S A len L) (hk : ∀ b o, S b → w'.cell? ⟨b, o, none⟩ = w.cell? ⟨b, o, none⟩) (hs : ∀ b, S b → S' b) : DefsAt w' S' A len L :=
  ⟨h.1, fun hl => by
    obtain ⟨b, o, e, hb, hc⟩ := h.2 hl
    refine ⟨b, o, e, hs b hb, fun j r hj => ?_⟩
    obtain ⟨d, hd, hcell⟩ := hc j r hj
    exact ⟨d, hd.keep hk hs, fun i v hv => (hk b _ hb).trans (hcell i v hv)⟩⟩
structure Cells9 (w : World) (b o : Nat) (d : DefV) : Prop where
  c0 : w.cell? ⟨b, o, none⟩ = some (.string d.s)
  c1 : w.cell? ⟨b, o + 1, none⟩ = some (.int .i64 d.t.kind)
  c2 : w.cell? ⟨b, o + 1 + 1, none⟩ = some (.string d.t.text)
  c3 : w.cell? ⟨b, o + 1 + 2, none⟩ = some (.int .i64 d.t.n)
  c4 : w.cell? ⟨b, o + 1 + 3, none⟩ = some (.slice d.t.sa d.t.sl d.t.sc)
  c5 : w.cell? ⟨b, o + 1 + 4, none⟩ = some (.slice d.t.aa d.t.al d.t.ac)
  c6 : w.cell? ⟨b, o + 1 + 5, none⟩ = some (.slice d.t.ka d.t.kl d.t.kc)
  c7 : w.cell? ⟨b, o + 7, none⟩ = some (.slice d.a.sa d.a.sl d.a.sc)
  c8 : w.cell? ⟨b, o + 7 + 1, none⟩ = some (.slice d.a.aa d.a.al d.a.ac)
theorem cells9 {w : World} {b o : Nat} {d : DefV} (h : ∀ (i : Nat) (v : Value), d.cells[i]? = some v → w.cell? ⟨b, o + i, none⟩ = some v) : Cells9 w b o d :=
  ⟨h 0 _ rfl, h 1 _ rfl, h 2 _ rfl, h 3 _ rfl, h 4 _ rfl, h 5 _ rfl, h 6 _ rfl, h 7 _ rfl, h 8 _ rfl⟩
theorem Cells9.later {w w' : World} {b o : Nat} {d : DefV} (h : Cells9 w b o d) (hb : Below w.heap.size w w') (hlt : b < w.heap.size) : Cells9 w' b o d := by
  have hk := hb.block b hlt
  exact ⟨(cell_of_heap hk).trans h.c0, (cell_of_heap hk).trans h.c1, (cell_of_heap hk).trans h.c2, (cell_of_heap hk).trans h.c3, (cell_of_heap hk).trans h.c4, (cell_of_heap hk).trans h.c5, (cell_of_heap hk).trans h.c6, (cell_of_heap hk).trans h.c7, (cell_of_heap hk).trans h.c8⟩
theorem Cells9.all {w : World} {b o : Nat} {d : DefV} (h : Cells9 w b o d) : w.cell? ⟨b, o, none⟩ = some (.string d.s) ∧ w.cell? ⟨b, o + 1, none⟩ = some (.int .i64 d.t.kind) ∧ w.cell? ⟨b, o + 1 + 1, none⟩ = some (.string d.t.text) ∧ w.cell? ⟨b, o + 1 + 2, none⟩ = some (.int .i64 d.t.n) ∧ w.cell? ⟨b, o + 1 + 3, none⟩ = some (.slice d.t.sa d.t.sl d.t.sc) ∧ w.cell? ⟨b, o + 1 + 4, none⟩ = some (.slice d.t.aa d.t.al d.t.ac) ∧ w.cell? ⟨b, o + 1 + 5, none⟩ = some (.slice d.t.ka d.t.kl d.t.kc) ∧ w.cell? ⟨b, o + 7, none⟩ = some (.slice d.a.sa d.a.sl d.a.sc) ∧ w.cell? ⟨b, o + 7 + 1, none⟩ = some (.slice d.a.aa d.a.al d.a.ac) :=
  ⟨h.c0, h.c1, h.c2, h.c3, h.c4, h.c5, h.c6, h.c7, h.c8⟩
theorem bytes_eq {s u : ByteArray} (h : s.data.toList = u.data.toList) : s = u := by
  cases s; cases u; simp only at h; congr 1; exact Array.ext' h
set_option maxRecDepth 100000 in
set_option maxHeartbeats 4000000 in
theorem eqDefs_calls {len c1 c2 : Nat} {A1 A2 : Option Addr} {L : List DR} {w : World} (h1 : DefsAt w (· < w.heap.size) A1 len L) (h2 : DefsAt w (· < w.heap.size) A2 len L) (hl : len ≤ 1000000) :
    Calls Tryz.prog 17 #[.slice A1 len c1, .slice A2 len c2] w (EqPost14 w) := by
  have H1 := Lib.hid h1
  have H2 := Lib.hid h2
  have hlen := h1.1
  clear h1 h2
  have h0 : (0 : Int) ≤ (len : Int) := Int.natCast_nonneg _
  have HB0 := Lib.hid (Below.refl w.heap.size w)
  unfold EqPost14
  go_enter Tryz.func17, Tryz.ntmps17
  go_wp2_with fail
  go_loopw [5] (fun i wr => ∃ k : Nat, k ≤ len ∧ i = .int .i64 k ∧ Below w.heap.size w wr) (fun i _ => len - (intOf i).toNat)
  case atStart => exact ⟨0, Nat.zero_le _, rfl, HB0.out⟩
  case round =>
    obtain ⟨k, hk, rfl, hb⟩ := hrel
    have HB := Lib.hid hb
    clear hb
    have k0 : (0 : Int) ≤ (k : Int) := Int.natCast_nonneg _
    by_cases hlt : k < len
    · have k1 : (k : Int) < (len : Int) := Int.ofNat_lt.2 hlt
      have hw : wrap64 ((k : Int) + 1) = ((k + 1 : Nat) : Int) := wrap_succ (by omega)
      obtain ⟨r, hr⟩ : ∃ r, L[k]? = some r := ⟨L[k]'(by omega), by simp⟩
      have hkk : ∀ b o, b < w.heap.size → wr.cell? ⟨b, o, none⟩ = w.cell? ⟨b, o, none⟩ := fun b o hb => HB.out.cell (p := ⟨b, o, none⟩) hb
      obtain ⟨b1, o1, e1, hb1, hc1⟩ := (H1.out.keep (S' := (· < w.heap.size)) hkk (fun _ h => h)).2 (by omega)
      obtain ⟨b2, o2, e2, hb2, hc2⟩ := (H2.out.keep (S' := (· < w.heap.size)) hkk (fun _ h => h)).2 (by omega)
      obtain ⟨d1, hd1, hcell1⟩ := hc1 k r hr
      obtain ⟨d2, hd2, hcell2⟩ := hc2 k r hr
      obtain ⟨s1, t1, a1⟩ := d1
      obtain ⟨s2, t2, a2⟩ := d2
      obtain rfl : s1 = s2 := bytes_eq (hd1.s.trans hd2.s.symm)
      have n1 := cells9 hcell1
      have n2 := cells9 hcell2
      have hsz := HB.out.size
      have CE := Lib.hid (fun W (hb : Below wr.heap.size wr W) => eq14_all r.t t1 t2 w.heap.size W (Rep.keep (Keeps.of_below hb hsz) _ _ (RepS.rep (fun _ h => h) _ _ hd1.t)) (Rep.keep (Keeps.of_below hb hsz) _ _ (RepS.rep (fun _ h => h) _ _ hd2.t)) (Nat.le_trans hsz hb.size))
      have CA := Lib.hid (fun W (hb : Below wr.heap.size wr W) => eqArr_calls ((hd1.a.rep (fun _ h => h)).keep (Keeps.of_below hb hsz)) ((hd2.a.rep (fun _ h => h)).keep (Keeps.of_below hb hsz)) hd1.a.s3 hd1.a.a3 (Nat.le_trans hsz hb.size))
      have HN1 := Lib.hid n1
      have HN2 := Lib.hid n2
      have hl1 : b1 < wr.heap.size := Nat.lt_of_lt_of_le hb1 hsz
      have hl2 : b2 < wr.heap.size := Nat.lt_of_lt_of_le hb2 hsz
      subst e1 e2
      obtain ⟨p0, p1, p2, p3, p4, p5, p6, p7, p8⟩ := n1.all
      obtain ⟨q0, q1, q2, q3, q4, q5, q6, q7, q8⟩ := n2.all
      have S0 := Lib.hid (And.intro n1.all n2.all)
      clear hkk hc1 hc2 hcell1 hcell2 hd1 hd2 n1 n2 hr hb1 hb2 hsz
      unfold EqPost14 TV.val TV.cells at CE
      unfold EqPost14 AV.val AV.cells at CA
      simp only at CE CA p0 p1 p2 p3 p4 p5 p6 p7 p8 q0 q1 q2 q3 q4 q5 q6 q7 q8
      go_wp2_with fail
      go_region_held3 (fun w' => (w'.cell? ⟨b1, o1 + k * 9, none⟩ = some (.string s1) ∧ w'.cell? ⟨b1, o1 + k * 9 + 1, none⟩ = some (.int .i64 t1.kind) ∧ w'.cell? ⟨b1, o1 + k * 9 + 1 + 1, none⟩ = some (.string t1.text) ∧ w'.cell? ⟨b1, o1 + k * 9 + 1 + 2, none⟩ = some (.int .i64 t1.n) ∧ w'.cell? ⟨b1, o1 + k * 9 + 1 + 3, none⟩ = some (.slice t1.sa t1.sl t1.sc) ∧ w'.cell? ⟨b1, o1 + k * 9 + 1 + 4, none⟩ = some (.slice t1.aa t1.al t1.ac) ∧ w'.cell? ⟨b1, o1 + k * 9 + 1 + 5, none⟩ = some (.slice t1.ka t1.kl t1.kc) ∧ w'.cell? ⟨b1, o1 + k * 9 + 7, none⟩ = some (.slice a1.sa a1.sl a1.sc) ∧ w'.cell? ⟨b1, o1 + k * 9 + 7 + 1, none⟩ = some (.slice a1.aa a1.al a1.ac)) ∧ w'.cell? ⟨b2, o2 + k * 9, none⟩ = some (.string s1) ∧ w'.cell? ⟨b2, o2 + k * 9 + 1, none⟩ = some (.int .i64 t2.kind) ∧ w'.cell? ⟨b2, o2 + k * 9 + 1 + 1, none⟩ = some (.string t2.text) ∧ w'.cell? ⟨b2, o2 + k * 9 + 1 + 2, none⟩ = some (.int .i64 t2.n) ∧ w'.cell? ⟨b2, o2 + k * 9 + 1 + 3, none⟩ = some (.slice t2.sa t2.sl t2.sc) ∧ w'.cell? ⟨b2, o2 + k * 9 + 1 + 4, none⟩ = some (.slice t2.aa t2.al t2.ac) ∧ w'.cell? ⟨b2, o2 + k * 9 + 1 + 5, none⟩ = some (.slice t2.ka t2.kl t2.kc) ∧ w'.cell? ⟨b2, o2 + k * 9 + 7, none⟩ = some (.slice a2.sa a2.sl a2.sc) ∧ w'.cell? ⟨b2, o2 + k * 9 + 7 + 1, none⟩ = some (.slice a2.aa a2.al a2.ac))
        (first | (with_reducible exact S2.out) | (with_reducible exact S1.out) | (with_reducible exact S0.out) | go_keep | ((try dsimp only); (repeat' apply And.intro); (all_goals go_keep)))
        (first
          | (go_at_call 11; refine (CE.out _ (by first | exact Below.refl _ _ | exact (Below.refl _ _).drew)).mono ?_; rintro e wa ⟨rfl, hba⟩; have hba' : Below wr.heap.size wr wa := (by first | exact hba | exact (Below.refl _ _).drew.trans hba); have HBA := Lib.hid hba'; have N1 := Lib.hid (HN1.out.later hba' hl1); have N2 := Lib.hid (HN2.out.later hba' hl2); have S1 := Lib.hid (And.intro N1.out.all N2.out.all); clear hba hba' p0 p1 p2 p3 p4 p5 p6 p7 p8 q0 q1 q2 q3 q4 q5 q6 q7 q8; obtain ⟨⟨p0, p1, p2, p3, p4, p5, p6, p7, p8⟩, q0, q1, q2, q3, q4, q5, q6, q7, q8⟩ := S1.out; simp only at p0 p1 p2 p3 p4 p5 p6 p7 p8 q0 q1 q2 q3 q4 q5 q6 q7 q8; have hl1 := Nat.lt_of_lt_of_le hl1 HBA.out.size; have hl2 := Nat.lt_of_lt_of_le hl2 HBA.out.size)
          | (go_at_call 15; refine (CA.out _ HBA.out).mono ?_; rintro e wb ⟨rfl, hbb⟩; have HBB := Lib.hid hbb; have M1 := Lib.hid (N1.out.later hbb hl1); have M2 := Lib.hid (N2.out.later hbb hl2); have S2 := Lib.hid (And.intro M1.out.all M2.out.all); clear hbb))
      all_goals
        go_wp2_with fail
        have HBF := Lib.hid (HB.out.trans ((HBA.out.trans (HBB.out.mono HBA.out.size)).mono HB.out.size))
        go_roundw
        case rel => exact ⟨k + 1, hlt, by go_num, HBF.out⟩
        case measure => exact sm_meas (by first | exact Int.lt_succ _ | (rw [hw]; exact Int.lt_succ _)) k0 k1
    · have k1 : ¬ (k : Int) < (len : Int) := by omega
      go_wp2_with fail
      go_ret
      exact ⟨rfl, HB.out⟩
end Go.Proofs.YtboondbognbnnaaGreatDoor

namespace Go.Proofs.YtboondbognbnnaaGreatDoor
open Go.RowKit
def zeroT : T := .mk 0 ⟨#[]⟩ 0 [] [] []
theorem rep_zero (w : World) (S : Nat → Prop) : RepS w S zeroT zeroTV := by
  refine (RepS_iff _ _ _ _).2 ⟨⟨?_, ?_, ?_, ?_, ?_, ?_, ?_, ?_, ?_, ?_, ?_, ?_, ?_, ?_⟩, rfl, rfl, rfl, ⟨rfl, fun h => absurd h (by decide)⟩, ⟨rfl, fun h => absurd h (by decide)⟩, rfl, ?_⟩
  all_goals first | (intro j u h; simp [zeroT] at h; done) | (unfold zeroTV; dsimp only; (try unfold maxLen); first | omega | decide)
theorem arep_zero (w : World) (S : Nat → Prop) : ARepS w S [] [] zeroAV :=
  ⟨⟨rfl, fun h => absurd h (by decide)⟩, ⟨rfl, fun h => absurd h (by decide)⟩, by decide, by decide, by unfold zeroAV maxLen; dsimp only; omega, by unfold zeroAV maxLen; dsimp only; omega, by decide, by decide⟩
/-- a name's line -/
def drOf (σ : Names) (k : List UInt8) : DR := match σ k with
  | some (.verb t) => ⟨k, t, [], []⟩
  | some (.noun sh a) => ⟨k, zeroT, sh, a⟩
  | none => ⟨k, zeroT, [], []⟩
/-- the names, rising -/
def keysS (DS : DataW Value) : List (List UInt8) := (strKeys DS).mergeSort leB
def listOf (σ : Names) (DS : DataW Value) : List DR := (keysS DS).map (drOf σ)
theorem drOf_k (σ : Names) (k : List UInt8) : (drOf σ k).k = k := by unfold drOf; split <;> rfl
def flat9 (ds : List DefV) : List Value := ds.flatMap fun d => d.cells.toList
theorem flat9_get : ∀ (ds : List DefV) (j i : Nat) (d : DefV) (v : Value), ds[j]? = some d → d.cells[i]? = some v → i < 9 → (flat9 ds)[j * 9 + i]? = some v
  | [], j, i, d, v, h, _, _ => by simp at h
  | e :: ds, 0, i, d, v, h, hv, hi => by
    simp at h
    subst h
    have hl : e.cells.toList.length = 9 := rfl
    show ((e.cells.toList ++ flat9 ds))[0 * 9 + i]? = _
    rw [List.getElem?_append_left (by omega)]
    simpa using hv
  | e :: ds, j + 1, i, d, v, h, hv, hi => by
    have hl : e.cells.toList.length = 9 := rfl
    show ((e.cells.toList ++ flat9 ds))[(j + 1) * 9 + i]? = _
    rw [List.getElem?_append_right (by omega), hl, show (j + 1) * 9 + i - 9 = j * 9 + i from by omega]
    exact flat9_get ds j i d v (by simpa using h) hv hi
theorem flat9_snoc (ds : List DefV) (d : DefV) : flat9 (ds ++ [d]) = flat9 ds ++ d.cells.toList := by simp [flat9]
theorem cells_lt {d : DefV} {i : Nat} {v : Value} (h : d.cells[i]? = some v) : i < 9 := by
  have := (Array.getElem?_eq_some_iff.1 h).1
  exact this
/-- a row of lines that grows: above base -/
structure DRow (base : Nat) (L : List DR) (k : Nat) (v : Value) (wr : World) : Prop where
  row : ∃ ds : List DefV, wr.ownsRow base 49 9 v k (flat9 ds) ∧ ds.length = k ∧ ∀ (j : Nat) (r : DR), (L.take k)[j]? = some r → ∃ d, ds[j]? = some d ∧ DefS wr (fun b => base ≤ b ∧ b < wr.heap.size ∧ v.ownBlock ≠ some b) r d
theorem DRow.start (base : Nat) (L : List DR) (w : World) : DRow base L 0 (.slice none 0 0) w := ⟨[], World.ownsRow_nil _ _ _ _, rfl, fun j r h => by simp at h⟩
theorem row_alloc {base n : Nat} {v : Value} {wr w4 : World} {xs : List Value} {o : Obj} (h1 : wr.ownsRow base 49 9 v n xs) (hb : Below wr.heap.size wr w4) : (w4.alloc o).ownsRow base 49 9 v n xs := by
  refine World.ownsRow.alloc ?_ o
  refine ⟨h1.1, ?_⟩
  rcases h1.2 with hn | ⟨g, cap, cur, rfl, hbg, hgg, rest⟩
  · exact .inl hn
  · exact .inr ⟨g, cap, cur, rfl, hbg, (hb.block g (Array.getElem?_eq_some_iff.1 hgg).1).trans hgg, rest⟩
theorem DRow.step {base : Nat} {L : List DR} {k : Nat} {v v' : Value} {wr w4 w5 : World} {r : DR} {d : DefV} {ds : List DefV} (h1 : wr.ownsRow base 49 9 v k (flat9 ds)) (h2 : ds.length = k) (h3 : ∀ (j : Nat) (r : DR), (L.take k)[j]? = some r → ∃ d, ds[j]? = some d ∧ DefS wr (fun b => base ≤ b ∧ b < wr.heap.size ∧ v.ownBlock ≠ some b) r d) (hr : L[k]? = some r) (hb : Below wr.heap.size wr w4) (hw : base ≤ wr.heap.size)
    {o : Obj} (hd : DefS w4 (fun b => wr.heap.size ≤ b ∧ b < w4.heap.size) r d) (hrow : w5.ownsRow base 49 9 v' (k + 1) (flat9 ds ++ d.cells.toList)) (hg : (w4.alloc o).grownBy w5 v.ownBlock) (hloc : v'.ownBlock = v.ownBlock ∨ v'.ownBlock = some (w4.alloc o).heap.size) :
    DRow base L (k + 1) v' w5 := by
  have hz4 := hb.size
  have hz5 := hg.size
  have hza : (w4.alloc o).heap.size = w4.heap.size + 1 := by simp
  have hk5 : ∀ b, b < w4.heap.size → v.ownBlock ≠ some b → w5.heap[b]? = w4.heap[b]? := fun b hb1 hb2 => (hg.block b (by omega) (fun e => hb2 e.symm)).trans (((Below.refl w4.heap.size w4).alloc (Nat.le_refl _) o).block b hb1)
  have hnew : ∀ b, b < w4.heap.size → v.ownBlock ≠ some b → v'.ownBlock ≠ some b := fun b hb1 hb2 e => by
    rcases hloc with h | h
    · exact hb2 (h ▸ e)
    · rw [h] at e
      injection e with e
      omega
  refine ⟨ds ++ [d], ?_, by simp [h2], fun j s hj => ?_⟩
  · rw [flat9_snoc]; exact hrow
  · rw [List.take_add_one, hr, Option.toList_some] at hj
    rcases Nat.lt_or_ge j k with hlt | hge
    · have hlk : j < (L.take k).length := by
        have := (List.getElem?_eq_some_iff.1 hr).1
        rw [List.length_take]; omega
      rw [List.getElem?_append_left hlk] at hj
      obtain ⟨d', hd', hS⟩ := h3 j s hj
      have hjl : j < ds.length := by rw [h2]; exact hlt
      refine ⟨d', by rw [List.getElem?_append_left hjl]; exact hd', hS.keep (fun b o hb' => cell_of_heap ((hk5 b (by have := hb'.2.1; omega) hb'.2.2).trans (hb.block b hb'.2.1))) (fun b hb' => ⟨hb'.1, by have := hb'.2.1; omega, hnew b (by have := hb'.2.1; omega) hb'.2.2⟩)⟩
    · have hlk : (L.take k).length = k := by
        have := (List.getElem?_eq_some_iff.1 hr).1
        rw [List.length_take]; omega
      rw [List.getElem?_append_right (by omega), hlk] at hj
      have hj0 : j - k = 0 := by
        have := (List.getElem?_eq_some_iff.1 hj).1
        simp at this; omega
      rw [hj0] at hj
      simp at hj
      subst hj
      have hjk : j = k := by omega
      have hvo : ∀ b, wr.heap.size ≤ b → v.ownBlock ≠ some b := fun b hb' e => by have := (h1.lt b e).2; omega
      refine ⟨d, by rw [List.getElem?_append_right (by omega), h2, hjk]; simp, hd.keep (fun b o hb' => cell_of_heap (hk5 b hb'.2 (hvo b hb'.1))) (fun b hb' => ⟨by have := hb'.1; omega, by have := hb'.2; omega, hnew b hb'.2 (hvo b hb'.1)⟩)⟩
theorem DRow.later {base : Nat} {L : List DR} {k : Nat} {v : Value} {w w' : World} (h : DRow base L k v w) (hb : Below w.heap.size w w') : DRow base L k v w' := by
  obtain ⟨ds, h1, h2, h3⟩ := h.row
  refine ⟨ds, ⟨h1.1, ?_⟩, h2, fun j r hj => ?_⟩
  · rcases h1.2 with hn | ⟨g, cap, cur, rfl, hbg, hgg, rest⟩
    · exact .inl hn
    · exact .inr ⟨g, cap, cur, rfl, hbg, (hb.block g (Array.getElem?_eq_some_iff.1 hgg).1).trans hgg, rest⟩
  · obtain ⟨d, hd, hS⟩ := h3 j r hj
    exact ⟨d, hd, hS.keep (fun b o hb' => cell_of_heap (hb.block b hb'.2.1)) (fun b hb' => ⟨hb'.1, Nat.lt_of_lt_of_le hb'.2.1 hb.size, hb'.2.2⟩)⟩
/-- when all are laid -/
theorem DRow.ends {base : Nat} {L : List DR} {k : Nat} {v : Value} {w : World} (h : DRow base L k v w) (hk : k = L.length) : ∃ A c, v = .slice A k c ∧ DefsAt w (fun b => base ≤ b ∧ b < w.heap.size) A k L := by
  obtain ⟨ds, h1, h2, h3⟩ := h.row
  have ht : L.take k = L := List.take_of_length_le (by omega)
  rw [ht] at h3
  rcases h1.2 with ⟨rfl, h0⟩ | ⟨g, cap, cur, rfl, hbg, hgg, hle, hcm, rest⟩
  · exact ⟨none, 0, by rw [h0], hk.symm, fun hl => by omega⟩
  · refine ⟨_, cap, rfl, hk.symm, fun hl => ⟨g, 0, rfl, ⟨hbg, (Array.getElem?_eq_some_iff.1 hgg).1⟩, fun j r hj => ?_⟩⟩
    obtain ⟨d, hd, hS⟩ := h3 j r hj
    refine ⟨d, hS.keep (fun _ _ _ => rfl) (fun b hb => ⟨hb.1, hb.2.1⟩), fun i v hv => ?_⟩
    have := h1.cells (g := g) rfl _ _ (flat9_get ds j i d v hd hv (cells_lt hv))
    rw [Lib.add_plain, Nat.zero_add] at this
    rw [Nat.zero_add]
    exact this
end Go.Proofs.YtboondbognbnnaaGreatDoor

namespace Go.Proofs.YtboondbognbnnaaGreatDoor
open Go.RowKit Go.WideMaps
theorem info_def : (Tryz.prog.info? 49).map (fun i => (i.zero, i.size, i.bytes)) = some (some (.agg #[.string ⟨#[]⟩, .int .i64 0, .string ⟨#[]⟩, .int .i64 0, .slice none 0 0, .slice none 0 0, .slice none 0 0, .slice none 0 0, .slice none 0 0]), 9, 168) := by kernel_rfl
theorem keys_calls (ms : Nat) (w : World) : Calls Tryz.prog 26 #[.map (some ms)] w fun e w' => e = .returned (.func (.func 51) #[] #[.pointer (some ⟨w.heap.size, 0, none⟩)]) ∧ w' = w.alloc (.cells #[.map (some ms)] 64) :=
  callsIn_wide.1 (Tryz.maps_Keys_26 (some ms) w)
/-- the names in memory, rising -/
def KeysAt (w : World) (v : Value) (ks : List (List UInt8)) : Prop := ∃ A c, v = .slice A ks.length c ∧ (0 < ks.length → ∃ g, A = some ⟨g, 0, none⟩ ∧ g < w.heap.size ∧ ∀ (j : Nat) (k : List UInt8), ks[j]? = some k → w.cell? ⟨g, j, none⟩ = some (.string ⟨k.toArray⟩))
theorem sorted_calls {p : SB} {w : World} {all : Int} {DV DN DS : DataW Value} {n : Nat} {σ : Names} (h : Sp p w all DV DN DS n σ) :
    Calls Tryz.prog 25 #[.func (.func 51) #[] #[.pointer (some ⟨w.heap.size, 0, none⟩)]] (w.alloc (.cells #[.map (some p.ms)] 64)) fun e w' => ∃ v, e = .returned v ∧ KeysAt w' v (keysS DS) ∧ Below w.heap.size w w' := by
  have hsz := World.ownsMap.size_le h.s
  have hle := h.le
  refine (Cx.sorted_at w.heap.size p.ms n DS (w.alloc (.cells #[.map (some p.ms)] 64)) (by simp) (by simp) (h.s.alloc _) (by unfold maxLen; omega) (by omega)).mono ?_
  rintro e w' ⟨v, ss, rfl, hp, hrow, hnil, hb⟩
  have hk : ss.mergeSort leB = keysS DS := mergeSort_of_perm hp
  have hl : ss.length = (keysS DS).length := by rw [← hk, List.length_mergeSort]
  rw [hk, hl] at hrow
  refine ⟨v, rfl, ?_, ((Below.refl _ w).alloc (Nat.le_refl _) _).trans (hb.mono (by simp))⟩
  rcases hrow.2 with ⟨rfl, h0⟩ | ⟨g, cap, cur, rfl, hbg, hgg, rest⟩
  · exact ⟨none, 0, by rw [h0], fun hl => by omega⟩
  · refine ⟨_, cap, rfl, fun _ => ⟨g, rfl, (Array.getElem?_eq_some_iff.1 hgg).1, fun j k hj => ?_⟩⟩
    have := hrow.cells (g := g) rfl j (encStr k) (by rw [List.getElem?_map, hj]; rfl)
    rw [Lib.add_plain, Nat.zero_add] at this
    exact this
/-- what List answers -/
def ListPost (L : List DR) (w : World) (e : Ending) (w' : World) : Prop := ∃ A c, e = .returned (.slice A L.length c) ∧ DefsAt w' (fun b => w.heap.size ≤ b ∧ b < w'.heap.size) A L.length L ∧ Below w.heap.size w w'
def ListRel (w0 : World) (L : List DR) (k : Nat) (v : Value) (wr : World) : Prop := DRow w0.heap.size L k v wr ∧ Below w0.heap.size w0 wr
theorem Boxd.nine {w : World} {b : Nat} {v0 v1 v2 v3 v4 v5 v6 v7 v8 : Value} (h : Boxd w b #[v0, v1, v2, v3, v4, v5, v6, v7, v8]) : w.cell? ⟨b, 0, none⟩ = some v0 ∧ w.cell? ⟨b, 1, none⟩ = some v1 ∧ w.cell? ⟨b, 2, none⟩ = some v2 ∧ w.cell? ⟨b, 3, none⟩ = some v3 ∧ w.cell? ⟨b, 4, none⟩ = some v4 ∧ w.cell? ⟨b, 5, none⟩ = some v5 ∧ w.cell? ⟨b, 6, none⟩ = some v6 ∧ w.cell? ⟨b, 7, none⟩ = some v7 ∧ w.cell? ⟨b, 8, none⟩ = some v8 :=
  ⟨h.cell 0 _ rfl, h.cell 1 _ rfl, h.cell 2 _ rfl, h.cell 3 _ rfl, h.cell 4 _ rfl, h.cell 5 _ rfl, h.cell 6 _ rfl, h.cell 7 _ rfl, h.cell 8 _ rfl⟩
theorem Boxd.set {w : World} {b : Nat} {cs : Array Value} (h : Boxd w b cs) (i : Nat) (v : Value) (hi : i < cs.size) : Boxd (w.setCell ⟨b, i, none⟩ v) b (cs.setIfInBounds i v) := by
  refine ⟨fun j u hj => ?_, fun o => by simp [h.fz o], by simpa [World.setCell] using h.lt⟩
  by_cases e : i = j
  · subst e
    rw [Array.getElem?_setIfInBounds_self_of_lt hi] at hj
    cases hj
    exact World.cell?_setCell_same _ _ _ (h.cell i cs[i] (by simp [hi]))
  · rw [Array.getElem?_setIfInBounds_ne e] at hj
    exact (World.cell?_setCell_other _ _ _ _ (by simp [e])).trans (h.cell j u hj)
theorem def_verb {w : World} {b : Nat} {s : ByteArray} (h : Boxd w b (DefV.cells ⟨s, zeroTV, zeroAV⟩)) (y : TV) :
    Boxd ((((((w.setCell ⟨b, 1, none⟩ (.int .i64 y.kind)).setCell ⟨b, 2, none⟩ (.string y.text)).setCell ⟨b, 3, none⟩ (.int .i64 y.n)).setCell ⟨b, 4, none⟩ (.slice y.sa y.sl y.sc)).setCell ⟨b, 5, none⟩ (.slice y.aa y.al y.ac)).setCell ⟨b, 6, none⟩ (.slice y.ka y.kl y.kc)) b (DefV.cells ⟨s, y, zeroAV⟩) :=
  (((((h.set 1 _ (show 1 < 9 from by decide)).set 2 _ (show 2 < 9 from by decide)).set 3 _ (show 3 < 9 from by decide)).set 4 _ (show 4 < 9 from by decide)).set 5 _ (show 5 < 9 from by decide)).set 6 _ (show 6 < 9 from by decide)
theorem def_noun {w : World} {b : Nat} {s : ByteArray} (h : Boxd w b (DefV.cells ⟨s, zeroTV, zeroAV⟩)) (y : AV) :
    Boxd ((w.setCell ⟨b, 7, none⟩ (.slice y.sa y.sl y.sc)).setCell ⟨b, 8, none⟩ (.slice y.aa y.al y.ac)) b (DefV.cells ⟨s, zeroTV, y⟩) :=
  (h.set 7 _ (show 7 < 9 from by decide)).set 8 _ (show 8 < 9 from by decide)
theorem cells_one9 (d : DefV) : ∀ u ∈ d.cells.toList, u.oneCell' = true := by
  intro u hu
  simp only [DefV.cells, List.mem_cons, List.not_mem_nil, or_false] at hu
  rcases hu with rfl | rfl | rfl | rfl | rfl | rfl | rfl | rfl | rfl <;> rfl
theorem def_verb_at {w w4 : World} {b : Nat} {s : ByteArray} (h : Boxd w b (DefV.cells ⟨s, zeroTV, zeroAV⟩)) (y : TV) (hw : (((((w.setCell ⟨b, 1, none⟩ (.int .i64 y.kind)).setCell ⟨b, 2, none⟩ (.string y.text)).setCell ⟨b, 3, none⟩ (.int .i64 y.n)).setCell ⟨b, 4, none⟩ (.slice y.sa y.sl y.sc)).setCell ⟨b, 5, none⟩ (.slice y.aa y.al y.ac)).setCell ⟨b, 6, none⟩ (.slice y.ka y.kl y.kc) = w4) :
    Boxd w4 b (DefV.cells ⟨s, y, zeroAV⟩) ∧ (∀ k, k ≠ b → w4.heap[k]? = w.heap[k]?) ∧ w4.heap.size = w.heap.size ∧ (∀ B a, B ≤ b → Below B a w → Below B a w4) := by
  subst hw
  refine ⟨def_verb h y, fun k hk => ?_, by simp [World.setCell], fun B a hB hb => ?_⟩
  · iterate 6 (refine (Below.heap_setCell _ _ _ _ hk).trans ?_)
    rfl
  · iterate 6 (refine Below.setCell ?_ hB _)
    exact hb
theorem def_noun_at {w w4 : World} {b : Nat} {s : ByteArray} (h : Boxd w b (DefV.cells ⟨s, zeroTV, zeroAV⟩)) (y : AV) (hw : (w.setCell ⟨b, 7, none⟩ (.slice y.sa y.sl y.sc)).setCell ⟨b, 8, none⟩ (.slice y.aa y.al y.ac) = w4) :
    Boxd w4 b (DefV.cells ⟨s, zeroTV, y⟩) ∧ (∀ k, k ≠ b → w4.heap[k]? = w.heap[k]?) ∧ w4.heap.size = w.heap.size ∧ (∀ B a, B ≤ b → Below B a w → Below B a w4) := by
  subst hw
  refine ⟨def_noun h y, fun k hk => ?_, by simp [World.setCell], fun B a hB hb => ?_⟩
  · iterate 2 (refine (Below.heap_setCell _ _ _ _ hk).trans ?_)
    rfl
  · iterate 2 (refine Below.setCell ?_ hB _)
    exact hb
theorem listRel_step {w1 wr w4 w5 : World} {σ : Names} {DS : DataW Value} {k : Nat} {v v' : Value} {key : List UInt8} {d : DefV} {ds : List DefV} {o : Obj} (hkey : (keysS DS)[k]? = some key) (hb0 : Below w1.heap.size w1 wr) (h1 : wr.ownsRow w1.heap.size 49 9 v k (flat9 ds)) (h2 : ds.length = k) (h3 : ∀ (j : Nat) (r : DR), ((listOf σ DS).take k)[j]? = some r → ∃ d, ds[j]? = some d ∧ DefS wr (fun b => w1.heap.size ≤ b ∧ b < wr.heap.size ∧ v.ownBlock ≠ some b) r d) (hb : Below wr.heap.size wr w4)
    (hd : DefS w4 (fun b => wr.heap.size ≤ b ∧ b < w4.heap.size) (drOf σ key) d) (hrow : w5.ownsRow w1.heap.size 49 9 v' (k + 1) (flat9 ds ++ d.cells.toList)) (hg : (w4.alloc o).grownBy w5 v.ownBlock) (hloc : v'.ownBlock = v.ownBlock ∨ v'.ownBlock = some (w4.alloc o).heap.size) :
    ListRel w1 (listOf σ DS) (k + 1) v' w5 :=
  ⟨DRow.step h1 h2 h3 (by unfold listOf; rw [List.getElem?_map, hkey]; rfl) hb hb0.size hd hrow hg hloc, (((hb0.trans (hb.mono hb0.size)).alloc (by have := hb0.size; have := hb.size; omega) o).grown hg (by simp; have := hb0.size; have := hb.size; omega) (fun g e => (h1.lt g e).1))⟩
theorem named_short {k : List UInt8} {lo hi : Int} (h : T.named k lo hi = true) : k.length ≤ 32 := by
  cases k with
  | nil => cases h
  | cons c l => simp only [T.named, Bool.and_eq_true, decide_eq_true_eq] at h; exact h.1.1.1
set_option maxRecDepth 100000 in
set_option maxHeartbeats 4000000 in
theorem list_calls {p : SB} {w : World} {all : Int} {DV DN DS : DataW Value} {n : Nat} {σ : Names} (h : Sp p w all DV DN DS n σ) :
    Calls Tryz.prog 8 #[.pointer (some ⟨p.s, 0, none⟩)] w (ListPost (listOf σ DS) w) := by
  obtain ⟨c0, c1, c2, c3⟩ := h.box.four
  have HSC := Lib.hid (sorted_calls h)
  have HK := Lib.hid (keys_calls p.ms w)
  have HSP := Lib.hid h
  have hks : ∀ k ∈ keysS DS, Maps.has DS (.string k) = true := fun k hk => by
    have hm : k ∈ strKeys DS := (List.mergeSort_perm _ _).mem_iff.1 hk
    obtain ⟨es, rfl⟩ := World.ownsMap.isMap h.s
    obtain ⟨q, hq, e⟩ := List.mem_map.1 hm
    obtain ⟨es', e', hkeys⟩ := World.ownsMap.keysOf h.s
    cases e'
    obtain ⟨v, hv⟩ := hkeys q hq
    obtain ⟨x, _, hx, _⟩ := Maps.keyOf_str Tryz.underlying9 hv
    rw [Maps.has_eq, List.any_eq_true]
    refine ⟨q, hq, ?_⟩
    rw [hx] at e ⊢
    have : x = k := e
    rw [this]
    exact WideAt.sameKey_self (isKey k)
  have HKS := Lib.hid hks
  have hn0 : (keysS DS).length ≤ 100000 := by
    have h1 : (keysS DS).length = Maps.size DS := by
      unfold keysS
      rw [List.length_mergeSort]
      obtain ⟨es, rfl⟩ := World.ownsMap.isMap h.s
      simp [strKeys, Maps.size_eq]
    rw [h1]
    exact Nat.le_trans (World.ownsMap.size_le h.s) h.le
  have HN0 := Lib.hid hn0
  clear hks hn0 h
  obtain ⟨i0, hi0, hz0, hz1, hz2⟩ := info_parts info_def
  have HI := Lib.hid (And.intro hi0 (And.intro hz0 (And.intro hz1 hz2)))
  clear hi0 hz0 hz1 hz2
  unfold ListPost
  have hL : (listOf σ DS).length = (keysS DS).length := by unfold listOf; rw [List.length_map]
  rw [hL]
  have HL := Lib.hid hL
  clear hL
  go_enter Tryz.func8, Tryz.ntmps8
  go_wp2_with (first
    | (go_at_call 26; refine HK.out.mono ?_; rintro e w' ⟨rfl, rfl⟩)
    | (go_at_call 25; refine HSC.out.mono ?_; rintro e w1 ⟨v, rfl, ⟨A, cA, rfl, hkeys⟩, hb1⟩; have HKY := Lib.hid hkeys; have HB1 := Lib.hid hb1; clear hb1 hkeys c0 c1 c2 c3))
  have HSP1 := Lib.hid (HSP.out.later HB1.out)
  have h0 : (0 : Int) ≤ ((keysS DS).length : Int) := Int.natCast_nonneg _
  go_loopw [3, 14] (fun v i wr => ∃ k : Nat, k ≤ (keysS DS).length ∧ i = .int .i64 k ∧ ListRel w1 (listOf σ DS) k v wr) (fun _ i _ => (keysS DS).length - (intOf i).toNat)
  case atStart => exact ⟨0, Nat.zero_le _, rfl, DRow.start _ _ _, Below.refl _ _⟩
  case round =>
    obtain ⟨k, hk, rfl, hD, hb⟩ := hrel
    have HD := Lib.hid hD
    have HB := Lib.hid hb
    clear hD hb
    have k0 : (0 : Int) ≤ (k : Int) := Int.natCast_nonneg _
    by_cases hlt : k < (keysS DS).length
    · have k1 : (k : Int) < ((keysS DS).length : Int) := Int.ofNat_lt.2 hlt
      have hw : wrap64 ((k : Int) + 1) = ((k + 1 : Nat) : Int) := wrap_succ (by have := HN0.out; omega)
      obtain ⟨key, hkey⟩ : ∃ key, (keysS DS)[k]? = some key := ⟨(keysS DS)[k], by simp⟩
      obtain ⟨g, rfl, hg, hcell⟩ := HKY.out (by omega)
      have hc := (cell_of_heap (o := k) (HB.out.block g hg)).trans (hcell k key hkey)
      have HKEY := Lib.hid hkey
      obtain ⟨m, hm⟩ := Option.isSome_iff_exists.1 (HSP.out.hs key (HKS.out key (List.mem_of_getElem? hkey)))
      have hent := (HSP.out.at_ key m hm).2
      have HBASE := Lib.hid HB.out.size
      have HZ := Lib.hid (fun W (hb : Below w1.heap.size w1 W) => HSP1.out.later hb)
      clear hcell hkey
      cases m with
      | verb t =>
        obtain ⟨hnm, hrest⟩ := hent
        have hsz : (⟨key.toArray⟩ : ByteArray).size ≤ 140737488355328 := by have h1 := named_short hnm; have h2 : (⟨key.toArray⟩ : ByteArray).size = key.length := rfl; omega
        go_upto_region 6 with fail
        generalize hW2 : World.alloc wr _ = w2
        have hb2 : Below wr.heap.size wr w2 := hW2 ▸ (Below.refl _ _).alloc (Nat.le_refl _) _
        have X2 := Lib.hid (show Boxd w2 wr.heap.size (DefV.cells ⟨⟨key.toArray⟩, zeroTV, zeroAV⟩) from hW2 ▸ Boxd.new wr _ _)
        have HB2 := Lib.hid (HB.out.trans (hb2.mono HB.out.size))
        have HBB2 := Lib.hid hb2
        have HZ2 := Lib.hid (show w2.heap.size = wr.heap.size + 1 from hW2 ▸ by simp)
        have HSZ := Lib.hid hsz
        have HVC := Lib.hid (verb_calls (HZ.out _ HB2.out) ⟨key.toArray⟩ hsz)
        have HIV := Lib.hid (isVerb_calls ⟨key.toArray⟩ w2 hsz)
        have hnm' : T.named (⟨key.toArray⟩ : ByteArray).data.toList 65 90 = true := hnm
        unfold VerbPost at HVC
        have hm' : σ (⟨key.toArray⟩ : ByteArray).data.toList = some (.verb t) := hm
        rw [hm'] at HVC
        rw [hnm'] at HIV
        clear hW2 hb2 hm' hnm' hrest hsz
        go_upto_region 9 with (first
          | (go_at_call 27; refine HIV.out.mono ?_; rintro e wx ⟨rfl, he⟩; obtain rfl := he.symm; clear he)
          | (go_at_call 10; refine HVC.out.mono ?_; rintro e w3 ⟨hb3, y, rfl, hy⟩; have HY := Lib.hid hy; have HB3 := Lib.hid hb3; have X3 := Lib.hid (X2.out.later hb3); clear hb3 hy; obtain ⟨q0, q1, q2, q3, q4, q5, q6, q7, q8⟩ := X3.out.nine; have qf := X3.out.fz; simp only [TV.val, TV.cells]))
        generalize hW4 : World.setCell _ _ _ = w4
        obtain ⟨hx4, hk4, hz4, hbk4⟩ := def_verb_at X3.out y hW4
        have hz2 := HBB2.out.size
        have hz22 : w2.heap.size = wr.heap.size + 1 := HZ2.out
        have hz3 := HB3.out.size
        have hb4 : Below wr.heap.size wr w4 := hbk4 _ _ (Nat.le_refl _) (HBB2.out.trans (HB3.out.mono hz2))
        have hdr : drOf σ key = ⟨key, t, [], []⟩ := by unfold drOf; rw [hm]
        have HDS := Lib.hid (show DefS w4 (fun b => wr.heap.size ≤ b ∧ b < w4.heap.size) (drOf σ key) ⟨⟨key.toArray⟩, y, zeroAV⟩ from by
          rw [hdr]
          exact ⟨by simp, HSZ.out, RepS.keep (fun b o hb => cell_of_heap (hk4 b (by have := hb.1; omega))) (fun b hb => ⟨by have := hb.1; omega, by have := hb.2; omega⟩) t y HY.out, arep_zero _ _⟩)
        have HX4 := Lib.hid hx4
        have HB4 := Lib.hid hb4
        obtain ⟨q0, q1, q2, q3, q4, q5, q6, q7, q8⟩ := hx4.nine
        obtain ⟨ds, g1, g2, g3⟩ := HD.out.row
        have hown4 := row_alloc (o := .cells (DefV.cells ⟨⟨key.toArray⟩, y, zeroAV⟩) 49) g1 hb4
        have HG := Lib.hid (And.intro g1 (And.intro g2 g3))
        have hkl := HN0.out
        have hbz := HBASE.out
        have hz4' := hb4.size
        clear hW4 hx4 hk4 hbk4 hdr hz4 hz22 hm g1 g2 g3 hb4 hz3 hz2
        simp only [DefV.cells, zeroAV, zeroTV] at q0 q1 q2 q3 q4 q5 q6 q7 q8 hown4
        obtain ⟨i1, i2, i3, i4⟩ := HI.out
        go_wp2_with (at_builtin; refine wpList_append_own_at _ rfl _ _ 22 rfl w1.heap.size 49 i0 _ 9 168 Tryz.underlying22 i1 i2 i3 i4 rfl (by decide) _ _ _ rfl hown4 ⟨w4.heap.size, 0, none⟩ 1 1 (DefV.cells ⟨⟨key.toArray⟩, y, zeroAV⟩).toList rfl rfl (row_new w4 _ _) (cells_one9 _) (by unfold maxLen; omega) (by omega) (by simp; omega) ?_; intro v' w5 hown' hgrow _ hloc; have HST := Lib.hid (listRel_step HKEY.out HB.out HG.out.1 HG.out.2.1 HG.out.2.2 HB4.out HDS.out hown' hgrow hloc); clear hown' hgrow hloc q0 q1 q2 q3 q4 q5 q6 q7 q8 hown4)
        go_roundw
        case rel => exact ⟨k + 1, hlt, by go_num, HST.out⟩
        case measure => exact sm_meas (by first | exact Int.lt_succ _ | (rw [hw]; exact Int.lt_succ _)) k0 k1
      | noun sh a =>
        obtain ⟨hnm, hrest⟩ := hent
        have hsz : (⟨key.toArray⟩ : ByteArray).size ≤ 140737488355328 := by have h1 := named_short hnm; have h2 : (⟨key.toArray⟩ : ByteArray).size = key.length := rfl; omega
        go_upto_region 6 with fail
        generalize hW2 : World.alloc wr _ = w2
        have hb2 : Below wr.heap.size wr w2 := hW2 ▸ (Below.refl _ _).alloc (Nat.le_refl _) _
        have X2 := Lib.hid (show Boxd w2 wr.heap.size (DefV.cells ⟨⟨key.toArray⟩, zeroTV, zeroAV⟩) from hW2 ▸ Boxd.new wr _ _)
        have HB2 := Lib.hid (HB.out.trans (hb2.mono HB.out.size))
        have HBB2 := Lib.hid hb2
        have HZ2 := Lib.hid (show w2.heap.size = wr.heap.size + 1 from hW2 ▸ by simp)
        have HSZ := Lib.hid hsz
        have HVC := Lib.hid (noun_calls (HZ.out _ HB2.out) ⟨key.toArray⟩ hsz)
        have HIV := Lib.hid (isVerb_calls ⟨key.toArray⟩ w2 hsz)
        have hnm' : T.named (⟨key.toArray⟩ : ByteArray).data.toList 65 90 = false := by cases hc : T.named key 65 90 with | false => rfl | true => exact (named_excl hc hnm).elim
        unfold NounPost at HVC
        have hm' : σ (⟨key.toArray⟩ : ByteArray).data.toList = some (.noun sh a) := hm
        rw [hm'] at HVC
        rw [hnm'] at HIV
        clear hW2 hb2 hm' hnm' hrest hsz
        go_upto_region 9 with (first
          | (go_at_call 27; refine HIV.out.mono ?_; rintro e wx ⟨rfl, he⟩; obtain rfl := he.symm; clear he)
          | (go_at_call 14; refine HVC.out.mono ?_; rintro e w3 ⟨hb3, y, rfl, hy⟩; have HY := Lib.hid hy; have HB3 := Lib.hid hb3; have X3 := Lib.hid (X2.out.later hb3); clear hb3 hy; obtain ⟨q0, q1, q2, q3, q4, q5, q6, q7, q8⟩ := X3.out.nine; have qf := X3.out.fz; simp only [AV.val, AV.cells]))
        generalize hW4 : World.setCell _ _ _ = w4
        obtain ⟨hx4, hk4, hz4, hbk4⟩ := def_noun_at X3.out y hW4
        have hz2 := HBB2.out.size
        have hz22 : w2.heap.size = wr.heap.size + 1 := HZ2.out
        have hz3 := HB3.out.size
        have hb4 : Below wr.heap.size wr w4 := hbk4 _ _ (Nat.le_refl _) (HBB2.out.trans (HB3.out.mono hz2))
        have hdr : drOf σ key = ⟨key, zeroT, sh, a⟩ := by unfold drOf; rw [hm]
        have HDS := Lib.hid (show DefS w4 (fun b => wr.heap.size ≤ b ∧ b < w4.heap.size) (drOf σ key) ⟨⟨key.toArray⟩, zeroTV, y⟩ from by
          rw [hdr]
          exact ⟨by simp, HSZ.out, rep_zero _ _, HY.out.keep (fun b o hb => cell_of_heap (hk4 b (by have := hb.1; omega))) (fun b hb => ⟨by have := hb.1; omega, by have := hb.2; omega⟩)⟩)
        have HX4 := Lib.hid hx4
        have HB4 := Lib.hid hb4
        obtain ⟨q0, q1, q2, q3, q4, q5, q6, q7, q8⟩ := hx4.nine
        obtain ⟨ds, g1, g2, g3⟩ := HD.out.row
        have hown4 := row_alloc (o := .cells (DefV.cells ⟨⟨key.toArray⟩, zeroTV, y⟩) 49) g1 hb4
        have HG := Lib.hid (And.intro g1 (And.intro g2 g3))
        have hkl := HN0.out
        have hbz := HBASE.out
        have hz4' := hb4.size
        clear hW4 hx4 hk4 hbk4 hdr hz4 hz22 hm g1 g2 g3 hb4 hz3 hz2
        simp only [DefV.cells, zeroAV, zeroTV] at q0 q1 q2 q3 q4 q5 q6 q7 q8 hown4
        obtain ⟨i1, i2, i3, i4⟩ := HI.out
        go_wp2_with (at_builtin; refine wpList_append_own_at _ rfl _ _ 22 rfl w1.heap.size 49 i0 _ 9 168 Tryz.underlying22 i1 i2 i3 i4 rfl (by decide) _ _ _ rfl hown4 ⟨w4.heap.size, 0, none⟩ 1 1 (DefV.cells ⟨⟨key.toArray⟩, zeroTV, y⟩).toList rfl rfl (row_new w4 _ _) (cells_one9 _) (by unfold maxLen; omega) (by omega) (by simp; omega) ?_; intro v' w5 hown' hgrow _ hloc; have HST := Lib.hid (listRel_step HKEY.out HB.out HG.out.1 HG.out.2.1 HG.out.2.2 HB4.out HDS.out hown' hgrow hloc); clear hown' hgrow hloc q0 q1 q2 q3 q4 q5 q6 q7 q8 hown4)
        go_roundw
        case rel => exact ⟨k + 1, hlt, by go_num, HST.out⟩
        case measure => exact sm_meas (by first | exact Int.lt_succ _ | (rw [hw]; exact Int.lt_succ _)) k0 k1
    · have k1 : ¬ (k : Int) < ((keysS DS).length : Int) := by omega
      obtain rfl : k = (keysS DS).length := by omega
      obtain ⟨A', c', rfl, hat⟩ := DRow.ends HD.out HL.out.symm
      have HAT := Lib.hid hat
      clear hat
      go_wp2_with fail
      go_ret
      have hz1 := HB1.out.size
      exact ⟨A', ⟨c', rfl⟩, HAT.out.keep (fun _ _ _ => rfl) (fun b hb => ⟨by have := hb.1; omega, hb.2⟩), HB1.out.trans (HB.out.mono hz1)⟩
end Go.Proofs.YtboondbognbnnaaGreatDoor
