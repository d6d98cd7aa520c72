/- A verified executor of closed calls, part 16: regions that draw their order. -/
import Derived.Test.YtcpkihikmpkdnaaGreatDoorCq
set_option linter.unusedVariables false
set_option linter.unusedSimpArgs false
namespace Go.Proofs.YtcpkihikmpkdnaaGreatDoor
namespace Cx
noncomputable section
section
variable {P : Program} {C : Cal} {G sz : Nat} {ops : Array Oper} {ms : List Nat} {H0 : Hp} {n0 : Nat} {ρ0 : Env} {LA : List Ld} {D : List Nat} {mf : Nat} {its : List Item} {n1 n2 : Nat} {T0 : Tm} {dsts : List Nat} {ns : Nat} {ρs : Env} {w0 : World} {out : Nat → Prop}
variable {m : Nat} {T : Tm} {H : Hp} {n : Nat} {ρ : Env} {sp : Nat → Spot} {wr : World} {outr : Nat → Prop} {a : Act} {w : World}
theorem tput_get {T T' : Tm} {dst : Option Tmp} {v : AV} (h : tput T sz dst v = some T') (t : Nat) : tget T' t = (if dst = some t then v else tget T t) ∧ (∀ d, dst = some d → d < sz ∧ d < 510) := by
  unfold tput at h
  split at h
  · cases h; simp
  · rename_i d
    cases hb : (Nat.blt d sz && Nat.blt d 510) with
    | false => rw [hb] at h; cases h
    | true =>
      rw [hb] at h
      cases h
      simp only [Bool.and_eq_true, Nat.blt_eq] at hb
      refine ⟨?_, fun d' e => by cases e; exact hb⟩
      rw [tget_set _ _ _ hb.2]
      by_cases e : t = d
      · subst e; simp
      · rw [if_neg e, if_neg (fun e' => e (by cases e'; rfl))]
/-- the line takes a step -/
theorem LInv.step (F : Fixed P C G sz ops ns ρs T0 dsts n1 n2 its) (I : LInv G sz ops ns ρs T0 its w0 out m T H n ρ sp wr outr a w) {i : Nat} {o : Oper} (ho : ops[i]? = some o) (hap : ∀ x ∈ its, o.apart ops x.o = true)
    {v : AV} {T' : Tm} (ht : tput T sz o.dst v = some T') {ρ1 : Env} {H' : Hp} {n' : Nat} {w1 : World} (M1 : Mem wr outr G ρ1 (hv H') n' w1) (hρ : ∀ b, b < n → ρ1 b = ρ b) (hn : n ≤ n') (hv' : v.wf ρ1 n') :
    LInv G sz ops ns ρs T0 its w0 out (with1 m i) T' H' n' ρ1 sp wr outr (a.put o.dst (v.conc ρ1)) w1 := by
  have hxi : ∀ x ∈ its, x.i ≠ i := fun x hx e => by
    obtain ⟨_, _, _, _, f, _⟩ := F.chain.fit x hx
    have h1 := f.op
    rw [e, ho] at h1
    have h1 : o = x.o := Option.some.inj h1
    obtain ⟨_, h2, _⟩ := Oper.apart_spec (hap x hx)
    exact h2 x.t (by rw [h1]; exact f.dst) f.dst
  have hbit : ∀ x ∈ its, (with1 m i).testBit x.i = true ↔ m.testBit x.i = true := fun x hx => by
    rw [with1_bit]
    have : ¬ i = x.i := fun e => hxi x hx e.symm
    simp [this]
  have hgood : ∀ ρ', Good ρs ns its (with1 m i) sp ρ' → Good ρs ns its m sp ρ' := fun ρ' hg => ⟨hg.1, fun x hx hb => hg.2 x hx ((hbit x hx).2 hb)⟩
  have hd : ∀ d, o.dst = some d → d < sz ∧ d < 510 := (tput_get ht 0).2
  have hg : ∀ t, tget T' t = if o.dst = some t then v else tget T t := fun t => (tput_get ht t).1
  have hga : ∀ t, (a.put o.dst (v.conc ρ1)).tmps.getD t undef = if o.dst = some t then v.conc ρ1 else a.tmps.getD t undef := fun t => by
    cases hdst : o.dst with
    | none => simp [Act.put]
    | some d =>
      rw [getD_put a d _ (by rw [I.size]; exact (hd d hdst).1)]
      by_cases e : t = d
      · subst e; simp
      · rw [if_neg e, if_neg (fun e' => e (by cases e'; rfl))]
  have hxt : ∀ x ∈ its, o.dst ≠ some x.t := fun x hx e => by
    obtain ⟨_, _, _, _, f, _⟩ := F.chain.fit x hx
    exact (Oper.apart_spec (hap x hx)).2.1 x.t e f.dst
  have hfb : ∀ x ∈ its, m.testBit x.i = true → ∀ b ao, x.ob = some (b, ao) → w1.heap[(sp b).blk]? = w.heap[(sp b).blk]? := fun x hx hb b ao hob => by
    have h1 := (I.its1 x hx hb b ao hob).1
    rw [(M1.outs _ h1).2, (I.mem.outs _ h1).2]
  refine ⟨M1, fun b hb => by rw [hρ b (Nat.lt_of_lt_of_le hb I.le), I.base b hb], Nat.le_trans I.le hn, by rw [size_put]; exact I.size, ?_, fun t htt => ?_, fun t => ?_, fun t htt => ?_, fun x hx t htl => ?_, fun ρ' hg' x hx hb => ?_, fun ρ' hg' x hx hb b ao hob => ?_, fun x hx hb b ao hob => I.its1 x hx ((hbit x hx).1 hb) b ao hob, fun x hx y hy hb hb' => I.itd x hx y hy ((hbit x hx).1 hb) ((hbit y hy).1 hb'), I.frm, I.env⟩
  · rw [defers_put, I.defers, hg 510, if_neg (fun e => absurd (hd 510 e).2 (Nat.lt_irrefl 510))]
    exact (marksOf_ext hρ _ (markL_wf (I.wf 510))).symm
  · rw [hga, hg]
    by_cases e : o.dst = some t
    · rw [if_pos e, if_pos e]
    · rw [if_neg e, if_neg e, I.val t fun x hx hb => htt x hx ((hbit x hx).2 hb), conc_ext hρ _ (I.wf t)]
  · rw [hg]
    by_cases e : o.dst = some t
    · rw [if_pos e]; exact hv'
    · rw [if_neg e]; exact wf_ext hρ hn _ (I.wf t)
  · rw [hg, if_neg (fun e => absurd (hd t e).1 (Nat.not_lt.2 htt)), conc_ext hρ _ (I.wf t)]
    exact I.big t htt
  · rw [hg, if_neg (fun e => (Oper.apart_spec (hap x hx)).1 t e htl)]
    exact I.keep x hx t htl
  · rw [hga, if_neg (hxt x hx)]
    exact I.itv ρ' (hgood ρ' hg') x hx ((hbit x hx).1 hb)
  · have hb' := (hbit x hx).1 hb
    have hsp : ρ' b = sp b := (hgood ρ' hg').2 x hx hb' b ao hob
    refine objOk_two (n := ns) rfl (fun _ _ => rfl) (F.chain.ob x hx b ao hob).2.2.2.1 ?_ (I.ito ρ' (hgood ρ' hg') x hx hb' b ao hob)
    rw [hsp]
    exact hfb x hx hb' b ao hob
theorem LInv.same (F : Fixed P C G sz ops ns ρs T0 dsts n1 n2 its) (I : LInv G sz ops ns ρs T0 its w0 out m T H n ρ sp wr outr a w) {o : Oper} (hap : ∀ x ∈ its, o.apart ops x.o = true) :
    Same ops o (actOf ρ T sz) a ∧ ActOk ρ n T sz (actOf ρ T sz) := by
  refine ⟨⟨by simp [actOf, I.size], fun t ht => ?_⟩, actOf_ok I.wf I.big⟩
  rw [actOf_get ρ T sz t (I.big t), I.val t fun x hx _ e => ?_]
  obtain ⟨_, _, _, _, f, _⟩ := F.chain.fit x hx
  exact (Oper.apart_spec (hap x hx)).2.2 x.t f.dst (e ▸ ht)
theorem lane_ok {ro : Option Nat} {mm : Nat} {QN : Act → World → Prop} {fr1 : Bool} {T1 : Tm} {H1 : Hp} (F : Fixed P C G sz ops ns ρs T0 dsts n1 n2 its) (hms : ms = masks ops.toList []) (hρ0 : ∀ b, b < n0 → ρs b = ρ0 b) (hn0 : n0 ≤ ns) (hLw : ∀ l ∈ LA, LdOk ρ0 n0 l) (hD : ∀ d ∈ D, ∃ x ∈ its, x.i = d)
    (hend : ∀ {fuel : Nat} {listed : Array Bool} {ρ : Env} {sp : Nat → Spot} {wr : World} {outr : Nat → Prop} {a : Act} {w : World}, Rep ops listed mf → cnt ops mf ≤ fuel → Closed ops listed → LInv G sz ops ns ρs T0 its w0 out mf T1 H1 n1 ρ sp wr outr a w → wpAnyK ro mm P ops (QOf QN) (SL ρ0 LA) ms fuel listed a w) :
    ∀ {m : Nat} {A : List (Nat × Bool)}, LaneOk ops D mf m A → ∀ {fuel : Nat} {listed : Array Bool} {fr : Bool} {T : Tm} {H : Hp} {n : Nat} {ρ : Env} {sp : Nat → Spot} {wr : World} {outr : Nat → Prop} {a : Act} {w : World},
      Run P C G sz ops ms H0 n0 LA fr1 T1 H1 n1 A fr T H n → (∀ y ∈ A, ∀ x ∈ its, ∀ oi, ops[y.1]? = some oi → oi.apart ops x.o = true) → Rep ops listed m → cnt ops m ≤ fuel → Closed ops listed → LInv G sz ops ns ρs T0 its w0 out m T H n ρ sp wr outr a w →
      wpAnyK ro mm P ops (QOf QN) (SL ρ0 LA) ms fuel listed a w := by
  have hQp : ∀ (o : Oper) (v : Value) c a w, QOf QN (.panic c) (a.put o.dst v) w → QOf QN (.panic c) a w := fun _ _ _ _ _ h => h.elim
  have tt : ∀ i j w w', (∀ k, inc ms j k = true → SL ρ0 LA k w → SL ρ0 LA k w') → inc ms j i = true → True → True := fun _ _ _ _ _ _ _ => trivial
  have free : ∀ {m i : Nat} {o : Oper} {listed : Array Bool}, Rep ops listed m → ops[i]? = some o → FreeM ops m i → ∀ j oj, ops[j]? = some oj → j ≠ i → listed.getD j true = false → (∀ e ∈ oj.after, Region.binds .any e = true → e.on ≠ i) → o.apart ops oj = true :=
    fun hR ho hf j oj hj hne hl hno => hf _ ho j oj hj hne (rep_false hR (Array.getElem?_eq_some_iff.1 hj).1 hl) hno
  have fuel1 : ∀ {m j fuel : Nat}, RdM ops m j → cnt ops m ≤ fuel → ∃ f, fuel = f + 1 ∧ cnt ops (with1 m j) ≤ f := fun {m j fuel} h hf => by
    have := cnt_lt h
    exact ⟨fuel - 1, by omega, by omega⟩
  have lt : ∀ {m j : Nat}, RdM ops m j → j < ops.size := fun h => by obtain ⟨o, ho, _⟩ := h; exact (Array.getElem?_eq_some_iff.1 ho).1
  have flt : ∀ {m j : Nat} {T : Tm} {H : Hp} {n : Nat} {ρ : Env} {sp : Nat → Spot} {wr : World} {outr : Nat → Prop} {a : Act} {w : World} {f : Nat} {listed : Array Bool}, LInv G sz ops ns ρs T0 its w0 out m T H n ρ sp wr outr a w → RdM ops m j → j ∈ D → (∃ o, ops[j]? = some o ∧ isFlt o = true) →
      (∀ (sp' : Nat → Spot) (wr' : World) (outr' : Nat → Prop) (a' : Act) (w' : World), LInv G sz ops ns ρs T0 its w0 out (with1 m j) T H n ρ sp' wr' outr' a' w' → wpAnyK ro mm P ops (QOf QN) (SL ρ0 LA) ms f (listed.setIfInBounds j true) a' w') →
      wpOpIn (FW ro) mm P ops (QOf QN) j (fun a' w' => (∀ k, inc ms j k = true → SL ρ0 LA k w → SL ρ0 LA k w') ∧ wpAnyK ro mm P ops (QOf QN) (SL ρ0 LA) ms f (listed.setIfInBounds j true) a' w') a w := by
    intro m j T H n ρ sp wr outr a w f listed I hr hj ⟨o, ho, hf⟩ hk
    obtain ⟨x, hx, rfl⟩ := hD j hj
    obtain ⟨_, _, _, _, fx, _⟩ := F.chain.fit x hx
    rw [fx.op] at ho
    cases ho
    exact item_flt F I hx hr hf fun v w' sp' outr' I' hgrow => ⟨fun k _ hs l hl hlk => cellsAt_grow hgrow (hs l hl hlk), hk sp' w' outr' _ w' I'⟩
  intro m A hL
  induction hL with
  | done =>
    intro fuel listed fr T H n ρ sp wr outr a w hrun _ hR hf hcl I
    cases hrun
    exact hend hR hf hcl I
  | @dtake m d A hd hnf hr hfree _ ih =>
    intro fuel listed fr T H n ρ sp wr outr a w hrun hap hR hf hcl I
    obtain ⟨x, hx, rfl⟩ := hD d hd
    obtain ⟨_, _, _, _, fx, _⟩ := F.chain.fit x hx
    have hflx : isFlt x.o = false := by
      obtain ⟨o, ho, h⟩ := hnf
      rw [fx.op] at ho
      cases ho
      simpa [noGuard, fx.guard] using h
    obtain ⟨v, hv', I'⟩ := item_take F I hx hr hflx
    obtain ⟨f, rfl, hf'⟩ := fuel1 hr hf
    exact wpAnyK_first (S' := fun _ => True) (v := v) hms fx.op F.nosel F.nodef (hQp x.o _) (tt x.i) f listed a w hcl (free hR fx.op hfree) ((rep_ready hR).2 hr) (.inl ⟨by simp [Region.wanted, fx.guard], fun w' _ => hv' w'⟩) trivial
      (ih hrun hap (rep_set hR (lt hr)) hf' (closed_set hcl ((rep_ready hR).2 hr)) I')
  | @take m i A hr hfree _ ih =>
    intro fuel listed fr T H n ρ sp wr outr a w hrun hap hR hf hcl I
    obtain ⟨f, rfl, hf'⟩ := fuel1 hr hf
    have hap' : ∀ y ∈ A, ∀ x ∈ its, ∀ oi, ops[y.1]? = some oi → oi.apart ops x.o = true := fun y hy => hap y (List.mem_cons_of_mem _ hy)
    have hcl' := closed_set hcl ((rep_ready hR).2 hr)
    cases hrun with
    | @skip _ _ _ o _ _ T' _ _ ho hw ht hrest =>
      have hapo : ∀ x ∈ its, o.apart ops x.o = true := fun x hx => hap (i, true) (by simp) x hx o ho
      obtain ⟨hsame, hA⟩ := I.same F hapo
      have hwant := xWanted_ok hA ops o
      rw [same_wanted hsame, hw] at hwant
      have I' := I.step F ho hapo ht I.mem (fun _ _ => rfl) (Nat.le_refl _) (by simp only [AV.wf])
      exact wpAnyK_first (S' := fun _ => True) (v := undef) hms ho F.nosel F.nodef (hQp o _) (tt i) f listed a w hcl (free hR ho hfree) ((rep_ready hR).2 hr) (.inr ⟨hwant, rfl⟩) trivial
        (ih hrest hap' (rep_set hR (lt hr)) hf' hcl' I')
    | @pure _ _ o _ _ T' _ _ v ho hw hx ht hrest =>
      have hapo : ∀ x ∈ its, o.apart ops x.o = true := fun x hx => hap (i, true) (by simp) x hx o ho
      obtain ⟨hsame, hA⟩ := I.same F hapo
      have hwant := xWanted_ok hA ops o
      rw [same_wanted hsame, hw] at hwant
      obtain ⟨g1, g2⟩ := xPure_ok (fun y => (hA.ev I.mem y).1) (fun y => (hA.ev I.mem y).2) hx
      have I' := I.step F ho hapo ht I.mem (fun _ _ => rfl) (Nat.le_refl _) g2
      exact wpAnyK_first (S' := fun _ => True) (v := v.conc ρ) hms ho F.nosel F.nodef (hQp o _) (tt i) f listed a w hcl (free hR ho hfree) ((rep_ready hR).2 hr) (.inl ⟨hwant, fun w' _ => by rw [← same_exec hsame (F.nosel i o · · ho)]; exact g1 w'⟩) trivial
        (ih hrest hap' (rep_set hR (lt hr)) hf' hcl' I')
    | @load _ _ o _ _ T' _ _ b o' t x v ho hw hop hx hv' ht hb1 hb2 hmem huniq hrest =>
      have hapo : ∀ x ∈ its, o.apart ops x.o = true := fun x hx => hap (i, true) (by simp) x hx o ho
      obtain ⟨hsame, hA⟩ := I.same F hapo
      have hwant := xWanted_ok hA ops o
      rw [same_wanted hsame, hw] at hwant
      obtain ⟨b', o2, hx', g1, g2⟩ := xLoad_ok (w0 := wr) (out := outr) (G := G) (ρ := ρ) (n := n) hv'
      rw [hx] at hx'
      cases hx'
      obtain ⟨g3, g4⟩ := g2 w I.mem
      have I' := I.step F ho hapo ht I.mem (fun _ _ => rfl) (Nat.le_refl _) g4
      have hρb : ∀ b, b < n0 → ρ b = ρ0 b := fun b hb => by rw [I.base b (Nat.lt_of_lt_of_le hb hn0), hρ0 b hb]
      have hcx : ∀ w', CellsAt ρ0 w' b o' v.cells ↔ CellsAt ρ w' b o' v.cells := fun w' => cellsAt_ext hρb hb1 (hLw _ hmem).2
      have hxe := (hA.ev I.mem x).1
      refine wpAnyK_first (S' := fun w' => CellsAt ρ w' b o' v.cells) (v := v.conc ρ) hms ho F.nosel F.nodef (hQp o _) (fun j w1 w2 hk hin hs => ?_) f listed a w hcl (free hR ho hfree) ((rep_ready hR).2 hr) (.inl ⟨hwant, fun w' hs => ?_⟩) g3
        (ih hrest hap' (rep_set hR (lt hr)) hf' hcl' I')
      · have := hk i hin (fun l hl hli => by rw [huniq l hl hli]; exact (hcx w1).2 hs)
        exact (hcx w2).1 (this _ hmem rfl)
      · rw [← same_exec hsame (F.nosel i o · · ho)]
        simp only [execOp, hop, Sem.run_bind, hxe, g1 w' hs, Result.andThen_ok, rp]
  | @eff m i A hr _ hothers _ ih ihs =>
    intro fuel listed fr T H n ρ sp wr outr a w hrun hap hR hf hcl I
    obtain ⟨f, rfl, hf'⟩ := fuel1 hr hf
    have hap' : ∀ y ∈ A, ∀ x ∈ its, ∀ oi, ops[y.1]? = some oi → oi.apart ops x.o = true := fun y hy => hap y (List.mem_cons_of_mem _ hy)
    have hir := (rep_ready hR).2 hr
    refine ⟨fun h0 => (by rw [h0] at hir; cases hir), fun j hj => ?_⟩
    have hrj := (rep_ready hR).1 hj
    by_cases hji : j = i
    · subst hji
      cases hrun with
      | @skip _ _ _ o _ _ T' _ _ ho hw ht hrest =>
        have hapo : ∀ x ∈ its, o.apart ops x.o = true := fun x hx => hap (j, false) (by simp) x hx o ho
        obtain ⟨hsame, hA⟩ := I.same F hapo
        have hwant := xWanted_ok hA ops o
        rw [same_wanted hsame, hw] at hwant
        have I' := I.step F ho hapo ht I.mem (fun _ _ => rfl) (Nat.le_refl _) (by simp only [AV.wf])
        unfold wpOpIn
        simp only [ho, hwant, Bool.false_eq_true, if_false]
        exact ⟨fun _ _ => trivial, fun _ _ hs => hs, ih hrest hap' (rep_set hR (lt hr)) hf' (closed_set hcl hj) I'⟩
      | @eff _ _ o _ _ T' _ H' _ n' v ho hw he ht hkeep hrest =>
        have hapo : ∀ x ∈ its, o.apart ops x.o = true := fun x hx => hap (j, false) (by simp) x hx o ho
        obtain ⟨hsame, hA⟩ := I.same F hapo
        have hwant := xWanted_ok hA ops o
        rw [hw] at hwant
        have hwp : wpOpIn (FW ro) mm P ops (QOf QN) j (fun a' w' => a'.defers = (actOf ρ T sz).defers ∧ ∃ ρ1, Mem wr outr G ρ1 (hv H') n' w' ∧ (∀ b, b < n → ρ1 b = ρ b) ∧ v.wf ρ1 n' ∧ n ≤ n' ∧ a' = (actOf ρ T sz).put o.dst (v.conc ρ1)) (actOf ρ T sz) w := by
          unfold Go.wpOpIn
          simp only [ho, hwant, if_true]
          exact xEff_ok F.cal I.mem (fun y => (hA.ev I.mem y).1) (fun y => (hA.ev I.mem y).2) he fun ρ1 w1 M1 hρ1 hwf hn => ⟨by rw [defers_put], ρ1, M1, hρ1, hwf, hn, rfl⟩
        refine wpOpIn_like ho (F.nosel j o · · ho) (F.nodef j o · ho) hsame (fun a' w' h => h.1) (fun u w' ⟨_, ρ1, M1, hρ1, hwf, hn, hput⟩ => ?_) hwp
        have I' := I.step F ho hapo ht M1 hρ1 hn hwf
        have hput' : a.put o.dst u = a.put o.dst (v.conc ρ1) := by
          cases hd : o.dst with
          | none => rfl
          | some d =>
            have hdl := (tput_get ht 0).2 d hd
            have := congrArg (fun b : Act => b.tmps.getD d undef) hput
            simp only [hd] at this
            rw [getD_put _ d _ (by rw [hsame.1, I.size]; exact hdl.1), getD_put _ d _ (by rw [hsame.1, I.size]; exact hdl.1), if_pos rfl, if_pos rfl] at this
            rw [this]
        rw [hput']
        refine ⟨fun k hik _ l hl hlk => ?_, ih hrest hap' (rep_set hR (lt hr)) hf' (closed_set hcl hj) I'⟩
        have hcs := hkeep l hl (hlk ▸ hik)
        obtain ⟨q1, q2⟩ := hLw l hl
        exact (cellsAt_ext (fun b hb => by rw [hρ1 b (Nat.lt_of_lt_of_le hb (Nat.le_trans hn0 I.le)), I.base b (Nat.lt_of_lt_of_le hb hn0), hρ0 b hb]) q1 q2).2 (cellsSame_ok hcs M1).1
    · obtain ⟨hjD, hfo⟩ := hothers j hrj hji
      have hf2 : cnt ops (with1 m j) ≤ f := by have := cnt_lt hrj; omega
      exact flt I hrj hjD hfo fun sp' wr' outr' a' w' I' => ihs j hrj hji hrun hap (rep_set hR (lt hrj)) hf2 (closed_set hcl hj) I'
  | @flts m hex hall _ ihs =>
    intro fuel listed fr T H n ρ sp wr outr a w hrun hap hR hf hcl I
    obtain ⟨j0, hj0⟩ := hex
    obtain ⟨f, rfl, _⟩ := fuel1 hj0 hf
    have hjr := (rep_ready hR).2 hj0
    refine ⟨fun h0 => (by rw [h0] at hjr; cases hjr), fun j hj => ?_⟩
    have hrj := (rep_ready hR).1 hj
    obtain ⟨hjD, hfo⟩ := hall j hrj
    have hf2 : cnt ops (with1 m j) ≤ f := by have := cnt_lt hrj; omega
    exact flt I hrj hjD hfo fun sp' wr' outr' a' w' I' => ihs j hrj hrun hap (rep_set hR (lt hrj)) hf2 (closed_set hcl hj) I'
end
/-! ### the whole -/
/-- the blocks made beside the line get their names -/
def xClose (P : Program) (C : Cal) (G sz : Nat) (ops : Array Oper) (ns : Nat) (T0 : Tm) (D : List Nat) (k : Kont) : Kont := fun fr Lp T H n =>
  bif Nat.ble ns n then (match D with
  | [] => k fr Lp T H n
  | d :: ds => match xItems P C G sz ops ns T0 (dstsOf ops (d :: ds)) (d :: ds) [] n with
    | some (its, n2) => k false Lp (putIts T its) (putObs H its) n2
    | none => none) else none
def xPlan (P : Program) (C : Cal) (G sz : Nat) (ops : Array Oper) (ms : List Nat) (H0 : Hp) (n0 : Nat) : List Lane → Kont
  | [], _, _, T, H, n => some (T, H, n, [])
  | (A, D) :: p, fr, Lp, T, H, n => xOps P C G sz ops ms H0 n0 (xClose P C G sz ops n T D (xPlan P C G sz ops ms H0 n0 p)) A fr Lp T H n
section
variable {P : Program} {C : Cal} {G sz : Nat} {ops : Array Oper} {ms : List Nat} {H0 : Hp} {n0 : Nat} {ρ0 : Env} {w0 : World} {out : Nat → Prop} {w00 : World}
theorem xClose_run {ns : Nat} {T0 : Tm} {D : List Nat} {k : Kont} {fr : Bool} {Lp : List Ld} {T : Tm} {H : Hp} {n : Nat} {r : Res} (h : xClose P C G sz ops ns T0 D k fr Lp T H n = some r) :
    ∃ its n2 fr2, Chain P C G sz ops ns T0 (dstsOf ops D) n its n2 ∧ its.map (·.i) = D ∧ k fr2 Lp (putIts T its) (putObs H its) n2 = some r ∧ (fr2 = true → fr = true ∧ putObs H its = H) ∧ ns ≤ n := by
  unfold xClose at h
  cases hb : Nat.ble ns n with
  | false => rw [hb] at h; cases h
  | true =>
  rw [hb] at h
  simp only [cond_true] at h
  rw [Nat.ble_eq] at hb
  split at h
  · exact ⟨[], n, fr, .nil, rfl, h, fun e => ⟨e, rfl⟩, hb⟩
  · split at h
    · rename_i its n2 hx
      obtain ⟨g1, g2⟩ := xItems_ok hx (.nil)
      exact ⟨its, n2, false, g1, by simpa using g2, h, fun e => (by cases e), hb⟩
    · cases h
theorem xPlan_wf (M0 : Mem w0 out G ρ0 (hv H0) n0 w00) : ∀ {p : List Lane} {fr : Bool} {Lp : List Ld} {T : Tm} {H : Hp} {n : Nat} {T2 : Tm} {H2 : Hp} {n2 : Nat} {L : List Ld}, xPlan P C G sz ops ms H0 n0 p fr Lp T H n = some (T2, H2, n2, L) → (fr = true → H = H0) → ∀ l ∈ L, LdOk ρ0 n0 l
  | [], fr, Lp, T, H, n, T2, H2, n2, L, h, hfr => by
    simp only [xPlan, Option.some.injEq, Prod.mk.injEq] at h
    obtain ⟨_, _, _, rfl⟩ := h
    intro l hl; cases hl
  | (A, D) :: p, fr, Lp, T, H, n, T2, H2, n2, L, h, hfr => by
    simp only [xPlan] at h
    obtain ⟨fr1, Lp1, T1, H1, n1, L1, g1, g2, g3, g4, g5⟩ := xOps_run M0 h hfr
    obtain ⟨its, n3, fr2, h1, h2, h3, h4, _⟩ := xClose_run g1
    have ih := xPlan_wf M0 h3 fun e => by rw [(h4 e).2]; exact g2 (h4 e).1
    intro l hl
    rcases g4 l hl with h | h
    · exact ih l h
    · exact h
theorem xPlan_ok {ro : Option Nat} {mm : Nat} {QN : Act → World → Prop} (hc : CalOk P G C) (hms : ms = masks ops.toList []) (hsel : Region.noSelect ops = true) (hnd : noDefer ops = true) (M0 : Mem w0 out G ρ0 (hv H0) n0 w00) {LA : List Ld} (hLw : ∀ l ∈ LA, LdOk ρ0 n0 l) :
    ∀ {p : List Lane} {m fuel : Nat} {listed : Array Bool} {fr : Bool} {Lp : List Ld} {T : Tm} {H : Hp} {n : Nat} {ρ : Env} {a : Act} {w : World} {T2 : Tm} {H2 : Hp} {n2 : Nat} {L : List Ld},
      PlanOk ops m p → Rep ops listed m → cnt ops m ≤ fuel → Closed ops listed → xPlan P C G sz ops ms H0 n0 p fr Lp T H n = some (T2, H2, n2, L) → ActOk ρ n T sz a → Mem w0 out G ρ (hv H) n w →
      (∀ b, b < n0 → ρ b = ρ0 b) → n0 ≤ n → (fr = true → H = H0) → (∀ l, l ∈ LA ↔ l ∈ Lp ∨ l ∈ L) → (∀ a' w', At w0 out G ρ n sz T2 H2 n2 a' w' → QN a' w') →
      wpAnyK ro mm P ops (QOf QN) (SL ρ0 LA) ms fuel listed a w
  | [], m, fuel, listed, fr, Lp, T, H, n, ρ, a, w, T2, H2, n2, L, hp, hR, hf, hcl, h, A, M, hρ, hn, hfr, hall, hQ => by
    simp only [xPlan, Option.some.injEq, Prod.mk.injEq] at h
    obtain ⟨rfl, rfl, rfl, _⟩ := h
    cases hp with
    | nil hr =>
      have he : Region.ready .any ops listed = [] := by
        cases hl : Region.ready .any ops listed with
        | nil => rfl
        | cons j l => exact (hr j ((rep_ready hR).1 (by rw [hl]; simp))).elim
      exact wpAnyK_done he (hQ a w ⟨ρ, A, M, fun _ _ => rfl, Nat.le_refl _⟩) fuel
  | (A0, D) :: p, m, fuel, listed, fr, Lp, T, H, n, ρ, a, w, T2, H2, n2, L, hp, hR, hf, hcl, h, A, M, hρ, hn, hfr, hall, hQ => by
    simp only [xPlan] at h
    cases hp with
    | @cons _ mf _ _ _ hL hap hbits hp' =>
      obtain ⟨fr1, Lp1, T1, H1, n1, L1, g1, g2, g3, g4, g5⟩ := xOps_run M0 h hfr
      obtain ⟨its, n3, fr2, h1, h2, h3, h4, hle⟩ := xClose_run g1
      have hrun := g5 LA hall
      have hD : ∀ d ∈ D, ∃ x ∈ its, x.i = d := fun d hd => by rw [← h2] at hd; obtain ⟨x, hx, e⟩ := List.mem_map.1 hd; exact ⟨x, hx, e⟩
      have hxD : ∀ x ∈ its, x.i ∈ D := fun x hx => by rw [← h2]; exact List.mem_map.2 ⟨x, hx, rfl⟩
      have F : Fixed P C G sz ops n ρ T (dstsOf ops D) n1 n3 its := ⟨hc, h1, A.wf, fun t ht => by
          rw [← A.val t]
          simp only [Array.getD_eq_getD_getElem?]
          rw [Array.getElem?_eq_none (by rw [A.size]; exact ht)]
          rfl, M.glob, M.globs, hle, Region.noSelect_spec hsel, noDefer_spec hnd⟩
      have nob : ∀ x ∈ its, m.testBit x.i = true → False := fun x hx hb => by rw [(hbits x.i (hxD x hx)).1] at hb; cases hb
      have I : LInv G sz ops n ρ T its w0 out m T H n ρ ρ w0 out a w :=
        ⟨M, fun _ _ => rfl, Nat.le_refl _, A.size, A.defers, fun t _ => A.val t, A.wf, F.big, fun _ _ _ _ => rfl, fun _ _ x hx hb => (nob x hx hb).elim, fun _ _ x hx hb => (nob x hx hb).elim, fun x hx hb => (nob x hx hb).elim, fun x hx y hy hb => (nob x hx hb).elim, fun c hc => ⟨hc, rfl⟩, ⟨rfl, rfl, rfl⟩⟩
      refine lane_ok F hms hρ hn hLw hD (fun {fuel' listed' ρ' sp' wr' outr' a' w'} hR' hf' hcl' I' => ?_) hL hrun (fun y hy x hx oi hoi => ?_) hR hf hcl I
      · obtain ⟨ρ2, A2, M2, hρ2, hn2⟩ := lane_end F I' fun x hx => (hbits x.i (hxD x hx)).2
        exact xPlan_ok hc hms hsel hnd M0 hLw hp' hR' hf' hcl' h3 A2 M2 (fun b hb => by rw [hρ2 b (Nat.lt_of_lt_of_le hb hn), hρ b hb]) (Nat.le_trans hn hn2) (fun e => by rw [(h4 e).2]; exact g2 (h4 e).1) (fun l => (hall l).trans (g3 l)) fun a3 w3 hat => hQ a3 w3 (hat.back hρ2 hn2)
      · obtain ⟨_, _, _, _, fx, _⟩ := h1.fit x hx
        exact laneApart_ok hap hy (hxD x hx) hoi fx.op
end
end
end Cx
end Go.Proofs.YtcpkihikmpkdnaaGreatDoor
