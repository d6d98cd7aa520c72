/- Package term: the walk of the counter. -/
import Derived.Test.YtnnhbpgpkpbinaaGreatTerm1
import Derived.Lib.Hide
namespace Go.Proofs.YtnnhbpgpkpbinaaGreat
open Go.RowKit

theorem AddPost.ends {w : World} {cb : Nat} {a m d : Int} {N H : Nat} {e : Ending} {w' : World} (h : AddPost w cb a m d N H e w') : e = .returned (.bool true) ∨ e = .returned (.bool false) := by
  obtain ⟨_, _, _, _, _, _, ⟨_, _, h, _⟩ | ⟨_, h⟩⟩ := h
  · exact .inl h
  · exact .inr h
theorem add_next {w wr w' : World} {cb : Nat} {a m d : Int} {l : List T} {k : Nat} {u : T} (hu : l[k]? = some u) (h : AddRel w cb a m d l k wr) (h5 : 0 ≤ m)
    (hp : AddPost wr cb (a + 1 + T.sumN l k) (max m (d + T.maxH l k)) (d + 1) u.nodes u.height (.returned (.bool true)) w') : AddRel w cb a m d l (k + 1) w' := by
  obtain ⟨a', m', g', c0, c1, f', hh⟩ := hp
  obtain ⟨g, _, _, _, _, _⟩ := h
  rcases hh with ⟨q1, q2, _, rfl, rfl⟩ | ⟨_, e⟩
  · have s1 := T.sumN_succ hu
    have s2 := T.maxH_succ hu
    have hp := T.height_pos u
    refine ⟨g.trans g', ?_, ?_, f', by omega, by omega⟩
    · rw [c0, s1]; congr 2; omega
    · rw [c1, s2]; congr 2; omega
  · cases e
theorem add_fails {w wr w' : World} {cb : Nat} {a m d : Int} {l : List T} {k : Nat} {u : T} (hu : l[k]? = some u) (h : AddRel w cb a m d l k wr)
    (hp : AddPost wr cb (a + 1 + T.sumN l k) (max m (d + T.maxH l k)) (d + 1) u.nodes u.height (.returned (.bool false)) w') :
    AddPost w cb a m d (1 + T.nodesL l) (1 + T.heightL l) (.returned (.bool false)) w' := by
  obtain ⟨a', m', g', c0, c1, f', hh⟩ := hp
  obtain ⟨g, _, _, _, _, _⟩ := h
  refine ⟨a', m', g.trans g', c0, c1, f', .inr ⟨?_, rfl⟩⟩
  rcases hh with ⟨_, _, e, _⟩ | ⟨hn, _⟩
  · cases e
  · have s1 := T.sumN_succ hu
    have s2 := T.maxH_succ hu
    have l1 := T.sumN_le l (k + 1)
    have l2 := T.maxH_le l (k + 1)
    omega
theorem add_ends {w wr : World} {cb : Nat} {a m d : Int} {l : List T} {k : Nat} (h : AddRel w cb a m d l k wr) (hk : l.length ≤ k) (h3 : 1 ≤ d) :
    AddPost w cb a m d (1 + T.nodesL l) (1 + T.heightL l) (.returned (.bool true)) wr := by
  obtain ⟨g, c0, c1, f, q1, q2⟩ := h
  rw [T.sumN_all l hk] at c0 q1
  rw [T.maxH_all l hk] at c1 q2
  refine ⟨_, _, g, c0, c1, f, .inl ⟨by omega, by omega, rfl, by omega, by omega⟩⟩

set_option maxHeartbeats 2000000 in
theorem add_all (t : T) : AddAll t := by
  refine T.ind (P := AddAll) ?_ t
  intro k s n sh at_ l ih x tb to cb B a m d w hr hat hne hB hBw hc0 hc1 hf h1 h2 h3 h4 h5 h6
  obtain ⟨t0, t1, t2, t3, t4, t5⟩ := hat
  have hN : (T.mk k s n sh at_ l).nodes = 1 + T.nodesL l := by simp [T.nodes]
  have hH : (T.mk k s n sh at_ l).height = 1 + T.heightL l := by simp [T.height]
  rw [hN, hH]
  clear hN hH
  have hkl := hr.kl
  have hwee := hr.wee
  simp only [T.kids_mk] at hkl
  have hk1 : x.kl ≤ 2199023255552 := hwee.l1
  have HKL := Lib.hid hkl
  clear hkl t0 t1 t2 t3 t4
  have hcbw := World.block_lt_of_cell? w _ hc0
  have htbw := World.block_lt_of_cell? w _ t5
  by_cases hbig : 4096 < a + 1 ∨ 256 < d
  · have hE := fun M : Int => add_early (N := T.nodesL l) (H := T.heightL l) (M := M) hc0 hc1 hf hbig
    have HE := Lib.hid hE
    clear hE
    by_cases hmd : m < d
    all_goals
      go_enter Tryz.func35, Tryz.ntmps35
      go_wp2_with fail
    all_goals first
      | (go_ret; exact HE.out _)
      | (exfalso; omega)
  · have ha : a + 1 ≤ 4096 := by omega
    have hd : d ≤ 256 := by omega
    have hS := fun (M : Int) (hM : M = max m d) => add_start (l := l) hc0 hc1 hf hM ha hd
    have HS := Lib.hid hS
    clear hS
    by_cases hmd : m < d
    all_goals
      have hM : (if m < d then d else m) = max m d := by split <;> omega
      have HM := Lib.hid hM
      clear hM
      go_enter Tryz.func35, Tryz.ntmps35
      go_wp2_with fail
      go_loopw [38] (fun i wr => ∃ k : Nat, k ≤ x.kl ∧ i = .int .i64 k ∧ AddRel w cb a m d l k wr) (fun i _ => x.kl - (intOf i).toNat)
      case atStart => exact ⟨0, Nat.zero_le _, rfl, HS.out _ (by omega)⟩
      case round =>
        obtain ⟨i, hi, rfl, hrel⟩ := hrel
        by_cases hlt : i < x.kl
        · obtain ⟨u, hu⟩ : ∃ u, l[i]? = some u := ⟨l[i]'(by rw [← HKL.out]; exact hlt), by simp⟩
          obtain ⟨b, o, y, he, hb, hat, hru⟩ := hr.kid (t := T.mk k s n sh at_ l) (j := i) hu
          have hg := hrel.1
          have hkeep : Keeps B w wr := Keeps.of_grown hg hBw (fun g e => by injection e with e; omega)
          have hat' := hat.keep hb hkeep
          have hru' := Rep.keep hkeep u y hru
          have t5' : wr.cell? ⟨tb, to + 5, none⟩ = some (.slice (some ⟨b, o, none⟩) x.kl x.kc) := by
            rw [hg.cell t5 (by simpa using hne), he]
          have IH := Lib.hid (ih u (List.mem_of_getElem? hu))
          have HR := Lib.hid hrel
          have HU := Lib.hid hu
          clear hu he hrel t5
          have b1 := HR.out.2.2.2.2.1
          have b2 := HR.out.2.2.2.2.2
          go_wp2_with fail
          refine (IH.out y b (o + i * 6) cb B (a + 1 + T.sumN l i) (max m (d + T.maxH l i)) (d + 1) wr hru' hat' (by omega) hB (Nat.le_trans hBw hg.size) HR.out.2.1 HR.out.2.2.1 HR.out.2.2.2.1 (by omega) (by omega) (by omega) (by omega) (by omega) (by omega)).mono ?_
          intro e w' hp
          have HP := Lib.hid hp
          rcases hp.ends with rfl | rfl
          all_goals
            clear hp
            go_wp2_with fail
          · go_roundw
            case rel => exact ⟨i + 1, by omega, by go_num, add_next HU.out HR.out h5 HP.out⟩
            case measure => simp [intOf]; omega
          · go_ret
            exact add_fails HU.out HR.out HP.out
        · have hik : l.length ≤ i := by rw [← HKL.out]; omega
          have HR := Lib.hid hrel
          clear hrel
          go_wp2_with fail
          go_ret
          exact add_ends HR.out hik h3
end Go.Proofs.YtnnhbpgpkpbinaaGreat
