/- What reads as data of the types of the law's arguments IS a term, an array, a list of names' lines in memory; numbers are within 64 bits. -/
import Derived.Test.YtboondbognbnnaaGreatDoorProg
import Derived.Test.YtboondbognbnnaaGreatDoorQSG
import Derived.Deep.Slices
import Derived.SizedLaws
import Derived.KernelRfl
import Derived.ProofKit
import Derived.OpenShut
set_option linter.unusedVariables false
set_option linter.unusedSimpArgs false
namespace Go.Proofs.YtboondbognbnnaaGreatDoor
open Go.ChangeShapes Go.WideShapes Go.Deep Go.RowKit

section
variable {H : Type} {enc : TypeId × Value → H} {w : World} {base : Nat} {sp : Nat → Bool} {hd : Bool}

theorem cells_int : Tryz.prog.cellsOf 3 = 1 := by kernel_rfl
theorem cells_int64 : Tryz.prog.cellsOf 2 = 1 := by kernel_rfl
theorem cells_string : Tryz.prog.cellsOf 9 = 1 := by kernel_rfl
theorem cells_num : Tryz.prog.cellsOf 26 = 2 := by kernel_rfl
theorem cells_term : Tryz.prog.cellsOf 29 = 6 := by kernel_rfl
theorem cells_ints : Tryz.prog.cellsOf 23 = 1 := by kernel_rfl
theorem cells_int64s : Tryz.prog.cellsOf 24 = 1 := by kernel_rfl
theorem cells_terms : Tryz.prog.cellsOf 27 = 1 := by kernel_rfl
theorem bytes_int : Tryz.prog.bytesOf 3 = 8 := by kernel_rfl
theorem bytes_int64 : Tryz.prog.bytesOf 2 = 8 := by kernel_rfl
theorem bytes_term : Tryz.prog.bytesOf 29 = 104 := by kernel_rfl

/-- An address with no spot, from its first cell. -/
theorem plain_of_cell {a : Addr} {v : Value} (h : w.cell? (a.add 0) = some v) : a = ⟨a.block, a.off, none⟩ ∧ a.block < w.heap.size := by
  have hs := World.cell?_spot h
  have hb := World.block_lt_of_cell? w _ h
  obtain ⟨b, o, s⟩ := a
  simp only [Addr.add, if_true] at hs hb
  exact ⟨by rw [hs], hb⟩

theorem len6 {α : Type} {l : List α} (h : l.length = 6) : ∃ a b c d e f, l = [a, b, c, d, e, f] := by
  match l, h with
  | [a, b, c, d, e, f], _ => exact ⟨a, b, c, d, e, f, rfl⟩
theorem len5 {α : Type} {l : List α} (h : l.length = 5) : ∃ a b c d e, l = [a, b, c, d, e] := by
  match l, h with
  | [a, b, c, d, e], _ => exact ⟨a, b, c, d, e, rfl⟩
theorem len2 {α : Type} {l : List α} (h : l.length = 2) : ∃ a b, l = [a, b] := by
  match l, h with
  | [a, b], _ => exact ⟨a, b, rfl⟩

theorem open_numbers {ts e : TypeId} {n : Nat} {c : Value} {y : DataW H × List MemPlace} (hts : Tryz.prog.underlying ts = some (.slice e)) (he : Tryz.prog.underlying e = some (.int .i64)) (hc : Tryz.prog.cellsOf e = 1) (hb : Tryz.prog.bytesOf e = 8)
    (h : DataW.trod enc Tryz.prog w base sp hd n ts [c] = some y) (hw : ∀ k ∈ y.1.weights Tryz.prog ts, k ≤ reachBytes) :
    ∃ A len cap xs, c = .slice A len cap ∧ Ints w w.heap.size A len xs ∧ len ≤ cap ∧ len ≤ 17592186044416 ∧ cap ≤ maxLen ∧ xs.all Pz.inRange = true := by
  rcases DataW.trod_slice hts h with ⟨h1, h2⟩ | ⟨a, len, cap, elems, rest, m, rfl, h1, rfl, _, hlc, hcm, hel, hx, _, _⟩
  · exact ⟨none, 0, 0, [], by simpa using h1, Ints.nil _ _ _, by omega, by omega, by decide, rfl⟩
  · have hlen : len ≤ 17592186044416 := by
      have := hw ((elems.length + rest.length) * 8) (by simp [DataW.weights, hts, hb])
      unfold reachBytes at this
      omega
    have hall : ∀ i, i < len → ∃ v : Int, w.cell? (a.add i) = some (.int .i64 v) ∧ Pz.inRange v = true := by
      intro i hi
      have h3 := hx i hi
      rw [List.getElem?_eq_getElem (by omega), hc] at h3
      obtain ⟨cs', h4, h5⟩ := Option.bind_eq_some_iff.1 h3
      obtain ⟨v, rfl, _, hwf⟩ := DataW.trod_int he h5
      obtain ⟨w0, w1⟩ := bounds_i64 hwf
      have h6 := (World.cells?_some h4).2.2 0 (by omega)
      rw [add_add] at h6
      exact ⟨v, by simpa using h6, by simp only [Pz.inRange, Bool.and_eq_true, decide_eq_true_eq]; exact ⟨w0, w1⟩⟩
    obtain ⟨f, hf⟩ := choose_lt hall
    refine ⟨some a, len, cap, (List.range len).map f, by simpa using h1, ⟨by simp, fun hl => ?_⟩, hlc, hlen, hcm, by simpa using fun i hi => (hf i hi).2⟩
    obtain ⟨ea, hbl⟩ := plain_of_cell (hf 0 hl).1
    refine ⟨a.block, a.off, by rw [← ea], hbl, fun i v hv => ?_⟩
    have hi : i < len := by
      have := (List.getElem?_eq_some_iff.1 hv).1
      simpa using this
    have hv' : f i = v := by simpa [hi] using hv
    have := (hf i hi).1
    rw [ea, add_plain, hv'] at this
    exact this

theorem weights_mem_all {P : Program} {e : TypeId} : ∀ {ds : List (DataW H)} {d : DataW H}, d ∈ ds → ∀ k ∈ d.weights P e, k ∈ DataW.weightsAll P e ds
  | d0 :: ds, d, hd, k, hk => by
    simp only [DataW.weightsAll, List.mem_append]
    rcases List.mem_cons.1 hd with rfl | h
    · exact Or.inl hk
    · exact Or.inr (weights_mem_all h k hk)

theorem rngL_of : ∀ {l : List T}, (∀ u ∈ l, Pp.rng u = true) → Pp.rngL l = true
  | [], _ => rfl
  | t :: l, h => by
    simp only [Pp.rngL, Bool.and_eq_true]
    exact ⟨h t (by simp), rngL_of fun u hu => h u (by simp [hu])⟩
/-- THE READING OF A TERM. -/
theorem open_term : ∀ (n : Nat) (cs : List Value) (y : DataW H × List MemPlace), DataW.trod enc Tryz.prog w base sp hd n 29 cs = some y → (∀ k ∈ y.1.weights Tryz.prog 29, k ≤ reachBytes) →
    ∃ t x, cs = x.cells.toList ∧ Rep w w.heap.size t x ∧ Pp.rng t = true := by
  intro n
  induction n using Nat.strongRecOn with
  | _ n ih =>
  intro cs y h hw
  obtain ⟨xs, m, rfl, rfl, hl, hxl, hf⟩ := DataW.trod_struct Tryz.underlying29 h
  rw [cells_term] at hl
  obtain ⟨c0, c1, c2, c3, c4, c5, rfl⟩ := len6 hl
  obtain ⟨y0, y1, y2, y3, y4, rfl⟩ := len5 (show xs.length = 5 from hxl)
  have f0 : DataW.trod enc Tryz.prog w base sp hd m 3 (([c0, c1, c2, c3, c4, c5].drop 0).take (Tryz.prog.cellsOf 3)) = some y0 := hf 0 _ rfl
  rw [cells_int] at f0
  replace f0 : DataW.trod enc Tryz.prog w base sp hd m 3 [c0] = some y0 := f0
  have f1 : DataW.trod enc Tryz.prog w base sp hd m 9 (([c0, c1, c2, c3, c4, c5].drop 1).take (Tryz.prog.cellsOf 9)) = some y1 := hf 1 _ rfl
  rw [cells_string] at f1
  replace f1 : DataW.trod enc Tryz.prog w base sp hd m 9 [c1] = some y1 := f1
  have f2 : DataW.trod enc Tryz.prog w base sp hd m 3 (([c0, c1, c2, c3, c4, c5].drop 2).take (Tryz.prog.cellsOf 3)) = some y2 := hf 2 _ rfl
  rw [cells_int] at f2
  replace f2 : DataW.trod enc Tryz.prog w base sp hd m 3 [c2] = some y2 := f2
  have f3 : DataW.trod enc Tryz.prog w base sp hd m 26 (([c0, c1, c2, c3, c4, c5].drop 3).take (Tryz.prog.cellsOf 26)) = some y3 := hf 3 _ rfl
  rw [cells_num] at f3
  replace f3 : DataW.trod enc Tryz.prog w base sp hd m 26 [c3, c4] = some y3 := f3
  have f4 : DataW.trod enc Tryz.prog w base sp hd m 27 (([c0, c1, c2, c3, c4, c5].drop 5).take (Tryz.prog.cellsOf 27)) = some y4 := hf 4 _ rfl
  rw [cells_terms] at f4
  replace f4 : DataW.trod enc Tryz.prog w base sp hd m 27 [c5] = some y4 := f4
  clear hf
  simp only [DataW.weights, Tryz.underlying29, List.map_cons, List.map_nil, DataW.weightsEach, List.mem_append] at hw
  obtain ⟨k, e0, _, wk⟩ := DataW.trod_int Tryz.underlying3 f0
  obtain ⟨s, e1, ey1, _⟩ := DataW.trod_string Tryz.underlying9 f1
  obtain ⟨num, e2, _, wn⟩ := DataW.trod_int Tryz.underlying3 f2
  have hs : s.size ≤ reachBytes := by
    have := hw s.data.toList.length (Or.inr (Or.inl (by rw [ey1]; simp only [DataW.weights, List.mem_singleton])))
    rw [Array.length_toList] at this
    exact this
  obtain ⟨zs, m', rfl, ey3, _, hzl, hg⟩ := DataW.trod_struct Tryz.underlying26 f3
  obtain ⟨z0, z1, rfl⟩ := len2 (show zs.length = 2 from hzl)
  have g0 : DataW.trod enc Tryz.prog w base sp hd m' 23 (([c3, c4].drop 0).take (Tryz.prog.cellsOf 23)) = some z0 := hg 0 _ rfl
  rw [cells_ints] at g0
  replace g0 : DataW.trod enc Tryz.prog w base sp hd m' 23 [c3] = some z0 := g0
  have g1 : DataW.trod enc Tryz.prog w base sp hd m' 24 (([c3, c4].drop 1).take (Tryz.prog.cellsOf 24)) = some z1 := hg 1 _ rfl
  rw [cells_int64s] at g1
  replace g1 : DataW.trod enc Tryz.prog w base sp hd m' 24 [c4] = some z1 := g1
  clear hg
  have hw3 : ∀ k ∈ y3.1.weights Tryz.prog 26, k ≤ reachBytes := fun k hk => hw k (Or.inr (Or.inr (Or.inr (Or.inl hk))))
  have hw4 : ∀ k ∈ y4.1.weights Tryz.prog 27, k ≤ reachBytes := fun k hk => hw k (Or.inr (Or.inr (Or.inr (Or.inr (Or.inl hk)))))
  rw [ey3] at hw3
  simp only [DataW.weights, Tryz.underlying26, List.map_cons, List.map_nil, DataW.weightsEach, List.mem_append] at hw3
  obtain ⟨sa, sl, sc, sh, es, hsh, s0, s1, s2, _⟩ := open_numbers Tryz.underlying23 Tryz.underlying3 cells_int bytes_int g0 (fun k hk => hw3 k (Or.inl hk))
  obtain ⟨aa, al, ac, at_, ea, hat, a0, a1, a2, arng⟩ := open_numbers Tryz.underlying24 Tryz.underlying2 cells_int64 bytes_int64 g1 (fun k hk => hw3 k (Or.inr (Or.inl hk)))
  have hk : ∃ (ka : Option Addr) (kl kc : Nat) (l : List T), c5 = .slice ka kl kc ∧ kl ≤ kc ∧ kl ≤ 2199023255552 ∧ kc ≤ maxLen ∧ kl = l.length ∧
      ∀ (j : Nat) (u : T), l[j]? = some u → (∃ b o y, ka = some ⟨b, o, none⟩ ∧ b < w.heap.size ∧ At w b (o + j * 6) y ∧ Rep w w.heap.size u y) ∧ Pp.rng u = true := by
    rcases DataW.trod_slice Tryz.underlying27 f4 with ⟨h1, h2⟩ | ⟨a, len, cap, elems, rest, q, hq, h1, ey4, _, hlc, hcm, hel, hx, _, _⟩
    · exact ⟨none, 0, 0, [], by simpa using h1, by omega, by omega, by decide, rfl, by simp⟩
    · rw [ey4] at hw4
      simp only [DataW.weights, Tryz.underlying27, bytes_term, List.length_map, List.mem_cons, List.mem_append] at hw4
      have hlen : len ≤ 2199023255552 := by
        have := hw4 _ (Or.inl rfl)
        unfold reachBytes at this
        omega
      have hone : ∀ i, i < len → ∃ cs' e, elems[i]? = some e ∧ e ∈ elems ∧ w.cells? base (a.add (i * 6)) 6 = some cs' ∧ DataW.trod enc Tryz.prog w base sp hd q 29 cs' = some e := by
        intro i hi
        have h3 := hx i hi
        rw [List.getElem?_eq_getElem (by omega), cells_term] at h3
        obtain ⟨cs', h4, h5⟩ := Option.bind_eq_some_iff.1 h3
        exact ⟨cs', _, List.getElem?_eq_getElem (by omega), List.getElem_mem _, h4, h5⟩
      have hplain : 0 < len → a = ⟨a.block, a.off, none⟩ ∧ a.block < w.heap.size := by
        intro h0
        obtain ⟨cs', e, _, _, h4, h5⟩ := hone 0 h0
        obtain ⟨_, hcl, hc⟩ := World.cells?_some h4
        have hc0 := hc 0 (by omega)
        rw [add_add, List.getElem?_eq_getElem (by omega)] at hc0
        exact plain_of_cell hc0
      have hall : ∀ i, i < len → ∃ tx : T × TV, At w a.block (a.off + i * 6) tx.2 ∧ Rep w w.heap.size tx.1 tx.2 ∧ a = ⟨a.block, a.off, none⟩ ∧ a.block < w.heap.size ∧ Pp.rng tx.1 = true := by
        intro i hi
        obtain ⟨ea, hbl⟩ := hplain (by omega)
        obtain ⟨cs', e, _, hmem, h4, h5⟩ := hone i hi
        obtain ⟨t, x, rfl, hr, hrn⟩ := ih q (by omega) cs' _ h5 (fun k hk => hw4 k (Or.inr (Or.inl (weights_mem_all (List.mem_map_of_mem hmem) k hk))))
        have hc := (World.cells?_some h4).2.2
        rw [ea] at hc
        simp only [add_plain] at hc
        exact ⟨(t, x), ⟨hc 0 (by omega), hc 1 (by omega), hc 2 (by omega), hc 3 (by omega), hc 4 (by omega), hc 5 (by omega)⟩, hr, ea, hbl, hrn⟩
      have : Inhabited (T × TV) := ⟨(.mk 0 ByteArray.empty 0 [] [] [], ⟨0, ByteArray.empty, 0, none, 0, 0, none, 0, 0, none, 0, 0⟩)⟩
      obtain ⟨f, hf⟩ := choose_lt hall
      refine ⟨some a, len, cap, (List.range len).map fun i => (f i).1, by simpa using h1, hlc, hlen, hcm, by simp, fun j u hu => ?_⟩
      have hj : j < len := by
        have := (List.getElem?_eq_some_iff.1 hu).1
        simpa using this
      have hu' : (f j).1 = u := by simpa [hj] using hu
      obtain ⟨p1, p2, p3, p4, p5⟩ := hf j hj
      rw [hu'] at p2 p5
      exact ⟨⟨a.block, a.off, (f j).2, by rw [← p3], p4, p1, p2⟩, p5⟩
  obtain ⟨ka, kl, kc, l, e5, l0, l1, l2, hkl, hkids⟩ := hk
  obtain ⟨k0, k1⟩ := bounds_i64 wk
  obtain ⟨n0, n1⟩ := bounds_i64 wn
  simp only [List.cons.injEq, and_true] at e0 e1 e2
  subst e0; subst e1; subst e2; subst es; subst ea; subst e5
  refine ⟨.mk k s num sh at_ l, ⟨k, s, num, sa, sl, sc, aa, al, ac, ka, kl, kc⟩, rfl, (Rep_iff _ _ _ _).2 ⟨⟨k0, k1, n0, n1, ?_, s0, a0, l0, s1, a1, l1, s2, a2, l2⟩, rfl, rfl, rfl, hsh, hat, hkl, fun j u hu => (hkids j u hu).1⟩, ?_⟩
  · unfold reachBytes at hs
    show s.size ≤ _
    omega
  · simp only [Pp.rng, Bool.and_eq_true]
    exact ⟨arng, rngL_of fun u hu => by obtain ⟨j, hj⟩ := List.getElem?_of_mem hu; exact (hkids j u hj).2⟩
theorem cells_def : Tryz.prog.cellsOf 49 = 9 := by kernel_rfl
theorem bytes_def : Tryz.prog.bytesOf 49 = 168 := by kernel_rfl
theorem len3 {α : Type} {l : List α} (h : l.length = 3) : ∃ a b c, l = [a, b, c] := by
  match l, h with
  | [a, b, c], _ => exact ⟨a, b, c, rfl⟩
theorem len9 {α : Type} {l : List α} (h : l.length = 9) : ∃ a b c d e f g i j, l = [a, b, c, d, e, f, g, i, j] := by
  match l, h with
  | [a, b, c, d, e, f, g, i, j], _ => exact ⟨a, b, c, d, e, f, g, i, j, rfl⟩
theorem Ints.setS {A : Option Addr} {len : Nat} {xs : List Int} (h : Ints w w.heap.size A len xs) : IntsS w (· < w.heap.size) A len xs := ⟨h.1, h.2⟩
/-- THE READING OF AN ARRAY. -/
theorem open_array {n : Nat} {cs : List Value} {y : DataW H × List MemPlace} (h : DataW.trod enc Tryz.prog w base sp hd n 26 cs = some y) (hw : ∀ k ∈ y.1.weights Tryz.prog 26, k ≤ reachBytes) :
    ∃ (x : AV) (sh a : List Int), cs = x.cells.toList ∧ ARepS w (· < w.heap.size) sh a x ∧ (∀ v ∈ sh, Pz.inRange v = true) ∧ ∀ v ∈ a, Pz.inRange v = true := by
  obtain ⟨zs, m', rfl, ey3, hl, hzl, hg⟩ := DataW.trod_struct Tryz.underlying26 h
  rw [cells_num] at hl
  obtain ⟨c3, c4, rfl⟩ := len2 hl
  obtain ⟨z0, z1, rfl⟩ := len2 (show zs.length = 2 from hzl)
  have g0 : DataW.trod enc Tryz.prog w base sp hd m' 23 (([c3, c4].drop 0).take (Tryz.prog.cellsOf 23)) = some z0 := hg 0 _ rfl
  rw [cells_ints] at g0
  replace g0 : DataW.trod enc Tryz.prog w base sp hd m' 23 [c3] = some z0 := g0
  have g1 : DataW.trod enc Tryz.prog w base sp hd m' 24 (([c3, c4].drop 1).take (Tryz.prog.cellsOf 24)) = some z1 := hg 1 _ rfl
  rw [cells_int64s] at g1
  replace g1 : DataW.trod enc Tryz.prog w base sp hd m' 24 [c4] = some z1 := g1
  clear hg
  rw [ey3] at hw
  simp only [DataW.weights, Tryz.underlying26, List.map_cons, List.map_nil, DataW.weightsEach, List.mem_append] at hw
  obtain ⟨sa, sl, sc, sh, es, hsh, s0, s1, s2, srng⟩ := open_numbers Tryz.underlying23 Tryz.underlying3 cells_int bytes_int g0 (fun k hk => hw k (Or.inl hk))
  obtain ⟨aa, al, ac, a, ea, hat, a0, a1, a2, arng⟩ := open_numbers Tryz.underlying24 Tryz.underlying2 cells_int64 bytes_int64 g1 (fun k hk => hw k (Or.inr (Or.inl hk)))
  subst es; subst ea
  exact ⟨⟨sa, sl, sc, aa, al, ac⟩, sh, a, rfl, ⟨hsh.setS, hat.setS, s0, a0, s2, a2, s1, a1⟩, List.all_eq_true.1 srng, List.all_eq_true.1 arng⟩
/-- THE READING OF A NAME's LINE. -/
theorem open_def {n : Nat} {cs : List Value} {y : DataW H × List MemPlace} (h : DataW.trod enc Tryz.prog w base sp hd n 49 cs = some y) (hw : ∀ k ∈ y.1.weights Tryz.prog 49, k ≤ reachBytes) :
    ∃ (r : DR) (d : DefV), cs = d.cells.toList ∧ DefS w (· < w.heap.size) r d ∧ r.ok := by
  obtain ⟨xs, m, rfl, ey, hl, hxl, hf⟩ := DataW.trod_struct Tryz.underlying49 h
  rw [cells_def] at hl
  obtain ⟨c0, c1, c2, c3, c4, c5, c6, c7, c8, rfl⟩ := len9 hl
  obtain ⟨y0, y1, y2, rfl⟩ := len3 (show xs.length = 3 from hxl)
  have f0 : DataW.trod enc Tryz.prog w base sp hd m 9 (([c0, c1, c2, c3, c4, c5, c6, c7, c8].drop 0).take (Tryz.prog.cellsOf 9)) = some y0 := hf 0 _ rfl
  rw [cells_string] at f0
  replace f0 : DataW.trod enc Tryz.prog w base sp hd m 9 [c0] = some y0 := f0
  have f1 : DataW.trod enc Tryz.prog w base sp hd m 29 (([c0, c1, c2, c3, c4, c5, c6, c7, c8].drop 1).take (Tryz.prog.cellsOf 29)) = some y1 := hf 1 _ rfl
  rw [cells_term] at f1
  replace f1 : DataW.trod enc Tryz.prog w base sp hd m 29 [c1, c2, c3, c4, c5, c6] = some y1 := f1
  have f2 : DataW.trod enc Tryz.prog w base sp hd m 26 (([c0, c1, c2, c3, c4, c5, c6, c7, c8].drop 7).take (Tryz.prog.cellsOf 26)) = some y2 := hf 2 _ rfl
  rw [cells_num] at f2
  replace f2 : DataW.trod enc Tryz.prog w base sp hd m 26 [c7, c8] = some y2 := f2
  clear hf
  rw [ey] at hw
  simp only [DataW.weights, Tryz.underlying49, List.map_cons, List.map_nil, DataW.weightsEach, List.mem_append] at hw
  obtain ⟨s, e0, ey0, _⟩ := DataW.trod_string Tryz.underlying9 f0
  have hs : s.size ≤ reachBytes := by
    have := hw s.data.toList.length (Or.inl (by rw [ey0]; simp only [DataW.weights, List.mem_singleton]))
    rw [Array.length_toList] at this
    exact this
  obtain ⟨t, x, et, hr, hg⟩ := open_term m _ y1 f1 (fun k hk => hw k (Or.inr (Or.inl hk)))
  obtain ⟨z, sh, a, ez, hz, hsh, ha⟩ := open_array f2 (fun k hk => hw k (Or.inr (Or.inr (Or.inl hk))))
  refine ⟨⟨s.data.toList, t, sh, a⟩, ⟨s, x, z⟩, ?_, ⟨rfl, by unfold reachBytes at hs; show s.size ≤ _; omega, hr.toS t x, hz⟩, ⟨hg, hsh, ha⟩⟩
  simp only [TV.cells, AV.cells, List.cons.injEq, and_true] at e0 et ez
  obtain ⟨rfl, rfl, rfl, rfl, rfl, rfl⟩ := et
  obtain ⟨rfl, rfl⟩ := ez
  subst e0
  rfl
/-- THE READING OF A LIST OF LINES. -/
theorem open_defs {n : Nat} {c : Value} {y : DataW H × List MemPlace} (h : DataW.trod enc Tryz.prog w base sp hd n 22 [c] = some y) (hw : ∀ k ∈ y.1.weights Tryz.prog 22, k ≤ reachBytes) :
    ∃ (A : Option Addr) (len cap : Nat) (L : List DR), c = .slice A len cap ∧ DefsAt w (· < w.heap.size) A len L ∧ (∀ r ∈ L, r.ok) ∧ len ≤ 17592186044416 := by
  rcases DataW.trod_slice Tryz.underlying22 h with ⟨h1, h2⟩ | ⟨a, len, cap, elems, rest, q, hq, h1, ey4, _, hlc, hcm, hel, hx, _, _⟩
  · exact ⟨none, 0, 0, [], by simpa using h1, ⟨rfl, by omega⟩, by simp, by omega⟩
  · rw [ey4] at hw
    simp only [DataW.weights, Tryz.underlying22, bytes_def, List.length_map, List.mem_cons, List.mem_append] at hw
    have hlen : len ≤ 17592186044416 := by
      have := hw _ (Or.inl rfl)
      unfold reachBytes at this
      omega
    have hone : ∀ i, i < len → ∃ cs' e, elems[i]? = some e ∧ e ∈ elems ∧ w.cells? base (a.add (i * 9)) 9 = some cs' ∧ DataW.trod enc Tryz.prog w base sp hd q 49 cs' = some e := by
      intro i hi
      have h3 := hx i hi
      rw [List.getElem?_eq_getElem (by omega), cells_def] at h3
      obtain ⟨cs', h4, h5⟩ := Option.bind_eq_some_iff.1 h3
      exact ⟨cs', _, List.getElem?_eq_getElem (by omega), List.getElem_mem _, h4, h5⟩
    have hplain : 0 < len → a = ⟨a.block, a.off, none⟩ ∧ a.block < w.heap.size := by
      intro h0
      obtain ⟨cs', e, _, _, h4, h5⟩ := hone 0 h0
      obtain ⟨_, hcl, hc⟩ := World.cells?_some h4
      have hc0 := hc 0 (by omega)
      rw [add_add, List.getElem?_eq_getElem (by omega)] at hc0
      exact plain_of_cell hc0
    have hall : ∀ i, i < len → ∃ tx : DR × DefV, (∀ (j : Nat) (v : Value), tx.2.cells[j]? = some v → w.cell? ⟨a.block, a.off + i * 9 + j, none⟩ = some v) ∧ DefS w (· < w.heap.size) tx.1 tx.2 ∧ tx.1.ok := by
      intro i hi
      obtain ⟨ea, hbl⟩ := hplain (by omega)
      obtain ⟨cs', e, _, hmem, h4, h5⟩ := hone i hi
      obtain ⟨r, d, rfl, hr, hok⟩ := open_def h5 (fun k hk => hw k (Or.inr (Or.inl (weights_mem_all (List.mem_map_of_mem hmem) k hk))))
      have hc := (World.cells?_some h4).2.2
      rw [ea] at hc
      simp only [add_plain] at hc
      refine ⟨(r, d), fun j v hv => ?_, hr, hok⟩
      have hj := cells_lt hv
      have := hc j hj
      rw [Array.getElem?_toList] at this
      rw [this]
      exact hv
    have : Inhabited (DR × DefV) := ⟨(⟨[], zeroT, [], []⟩, ⟨ByteArray.empty, zeroTV, zeroAV⟩)⟩
    obtain ⟨f, hf⟩ := choose_lt hall
    refine ⟨some a, len, cap, (List.range len).map fun i => (f i).1, by simpa using h1, ⟨by simp, fun hl => ?_⟩, ?_, hlen⟩
    · obtain ⟨ea, hbl⟩ := hplain hl
      refine ⟨a.block, a.off, by rw [← ea], hbl, fun j r hj => ?_⟩
      have hjl : j < len := by
        have := (List.getElem?_eq_some_iff.1 hj).1
        simpa using this
      have hr' : (f j).1 = r := by simpa [hjl] using hj
      obtain ⟨p1, p2, p3⟩ := hf j hjl
      exact ⟨(f j).2, hr' ▸ p2, p1⟩
    · intro r hr
      obtain ⟨i, hi, rfl⟩ := List.mem_map.1 hr
      exact (hf i (List.mem_range.1 hi)).2.2
end
end Go.Proofs.YtboondbognbnnaaGreatDoor
