/- A verified executor of closed calls, part 15: a line beside which blocks are made, in every order. -/
import Derived.Test.YtcpkihikmpkdnaaGreatDoorCp
set_option linter.unusedVariables false
set_option linter.unusedSimpArgs false
namespace Go.Proofs.YtcpkihikmpkdnaaGreatDoor
namespace Cx
noncomputable section
def Good (ρs : Env) (ns : Nat) (its : List Item) (m : Nat) (sp : Nat → Spot) (ρ' : Env) : Prop := (∀ b, b < ns → ρ' b = ρs b) ∧ ∀ x ∈ its, m.testBit x.i = true → ∀ b ao, x.ob = some (b, ao) → ρ' b = sp b
structure LInv (G sz : Nat) (ops : Array Oper) (ns : Nat) (ρs : Env) (T0 : Tm) (its : List Item) (w0 : World) (out : Nat → Prop) (m : Nat) (T : Tm) (H : Hp) (n : Nat) (ρ : Env) (sp : Nat → Spot) (wr : World) (outr : Nat → Prop) (a : Act) (w : World) : Prop where
  mem : Mem wr outr G ρ (hv H) n w
  base : ∀ b, b < ns → ρ b = ρs b
  le : ns ≤ n
  size : a.tmps.size = sz
  defers : a.defers = marksOf ρ (markL (tget T 510))
  val : ∀ t, (∀ x ∈ its, m.testBit x.i = true → x.t ≠ t) → a.tmps.getD t undef = (tget T t).conc ρ
  wf : ∀ t, (tget T t).wf ρ n
  big : ∀ t, sz ≤ t → (tget T t).conc ρ = undef
  keep : ∀ x ∈ its, ∀ t ∈ x.o.looksAt ops, tget T t = tget T0 t
  itv : ∀ ρ', Good ρs ns its m sp ρ' → ∀ x ∈ its, m.testBit x.i = true → a.tmps.getD x.t undef = x.v.conc ρ'
  ito : ∀ ρ', Good ρs ns its m sp ρ' → ∀ x ∈ its, m.testBit x.i = true → ∀ b ao, x.ob = some (b, ao) → ObjOk ρ' w b ao
  its1 : ∀ x ∈ its, m.testBit x.i = true → ∀ b ao, x.ob = some (b, ao) → outr (sp b).blk ∧ ¬ out (sp b).blk
  itd : ∀ x ∈ its, ∀ y ∈ its, m.testBit x.i = true → m.testBit y.i = true → ∀ b ao b' ao', x.ob = some (b, ao) → y.ob = some (b', ao') → (sp b).blk = (sp b').blk → b = b'
  frm : ∀ c, out c → outr c ∧ wr.heap[c]? = w0.heap[c]?
  env : SameEnv w0 wr
theorem getD_put (a : Act) (d : Nat) (v : Value) (hd : d < a.tmps.size) (t : Nat) : (a.put (some d) v).tmps.getD t undef = if t = d then v else a.tmps.getD t undef := by
  simp only [Act.put, Array.getD_eq_getD_getElem?]
  by_cases e : t = d
  · subst e; rw [if_pos rfl, Array.getElem?_setIfInBounds_self_of_lt hd]; rfl
  · rw [if_neg e, Array.getElem?_setIfInBounds_ne (Ne.symm e)]
theorem size_put (a : Act) (d : Option Nat) (v : Value) : (a.put d v).tmps.size = a.tmps.size := by cases d <;> simp [Act.put]
theorem defers_put (a : Act) (d : Option Nat) (v : Value) : (a.put d v).defers = a.defers := by cases d <;> rfl
section
variable {P : Program} {C : Cal} {G sz : Nat} {ops : Array Oper} {ms : List Nat} {H0 : Hp} {n0 : Nat} {ρ0 : Env} {LA : List Ld} {D : List Nat} {mf : Nat} {its : List Item} {n1 n2 : Nat} {T0 : Tm} {dsts : List Nat} {ns : Nat} {ρs : Env} {w0 : World} {out : Nat → Prop}
/-- what is fixed all along -/
structure Fixed (P : Program) (C : Cal) (G sz : Nat) (ops : Array Oper) (ns : Nat) (ρs : Env) (T0 : Tm) (dsts : List Nat) (n1 n2 : Nat) (its : List Item) : Prop where
  cal : CalOk P G C
  chain : Chain P C G sz ops ns T0 dsts n1 its n2
  wf : ∀ t, (tget T0 t).wf ρs ns
  big : ∀ t, sz ≤ t → (tget T0 t).conc ρs = undef
  glob : ∀ g, g < G → ρs g = ⟨g, 0, 1⟩
  globs : G ≤ ns
  le : ns ≤ n1
  nosel : ∀ (j : Nat) (o : Oper) cs b, ops[j]? = some o → o.op ≠ .select cs b
  nodef : ∀ (j : Nat) (o : Oper) c, ops[j]? = some o → o.op ≠ .defer c
variable {m : Nat} {T : Tm} {H : Hp} {n : Nat} {ρ : Env} {sp : Nat → Spot} {wr : World} {outr : Nat → Prop} {a : Act} {w : World}
def rhoG (ns : Nat) (ρs : Env) (sp : Nat → Spot) : Env := fun b => if b < ns then ρs b else sp b
theorem good_G (F : Fixed P C G sz ops ns ρs T0 dsts n1 n2 its) : Good ρs ns its m sp (rhoG ns ρs sp) := by
  refine ⟨fun b hb => by simp [rhoG, hb], fun x hx _ b ao hob => ?_⟩
  have := (F.chain.ob x hx b ao hob).1
  have := F.le
  simp only [rhoG]
  rw [if_neg (by omega)]
theorem item_same (F : Fixed P C G sz ops ns ρs T0 dsts n1 n2 its) (I : LInv G sz ops ns ρs T0 its w0 out m T H n ρ sp wr outr a w) {x : Item} (hx : x ∈ its) (hrd : ∀ e ∈ x.o.after, Region.binds .any e = true → m.testBit e.on = true)
    {pre : List Item} {k : Nat} (hc : Chain P C G sz ops ns T0 dsts n1 pre k) (hpre : ∀ y ∈ pre, y ∈ its) (hf : Fit ops sz dsts pre k x) {ρ' : Env} (hg : Good ρs ns its m sp ρ') :
    Same ops x.o (actOf ρ' (putIts T0 pre) sz) a ∧ ActOk ρ' k (putIts T0 pre) sz (actOf ρ' (putIts T0 pre) sz) := by
  have hall : ∀ y ∈ its, y.t ∈ dsts := fun y hy => by obtain ⟨_, _, _, _, f, _⟩ := F.chain.fit y hy; exact f.mem
  have hlts : ∀ y ∈ its, y.t < sz := fun y hy => by obtain ⟨_, _, _, _, f, _⟩ := F.chain.fit y hy; exact f.lt
  have hT0 : ∀ t, (tget T0 t).conc ρ' = (tget T0 t).conc ρs := fun t => conc_ext hg.1 _ (F.wf t)
  have hbig : ∀ t, sz ≤ t → (tget (putIts T0 pre) t).conc ρ' = undef := fun t ht => by
    rw [(hc.get T0).2 t fun y hy e => by have := hlts y (hpre y hy); omega, hT0, F.big t ht]
  have hwf : ∀ t, (tget (putIts T0 pre) t).wf ρ' k := fun t => by
    by_cases h : ∃ y ∈ pre, y.t = t
    · obtain ⟨y, hy, rfl⟩ := h
      rw [(hc.get T0).1 y hy]
      exact hc.wf ρ' (Nat.le_refl _) y hy
    · rw [(hc.get T0).2 t fun y hy e => h ⟨y, hy, e⟩]
      exact wf_ext hg.1 (Nat.le_trans F.le hc.le) _ (F.wf t)
  refine ⟨⟨by simp [actOf, I.size], fun t ht => ?_⟩, actOf_ok hwf hbig⟩
  rw [actOf_get ρ' _ sz t (hbig t)]
  by_cases hd : t ∈ dsts
  · obtain ⟨y, hy, rfl, e, he, hb, hon⟩ := hf.looks t ht hd
    rw [(hc.get T0).1 y hy, I.itv ρ' hg y (hpre y hy) (hon ▸ hrd e he hb)]
  · rw [(hc.get T0).2 t fun y hy e => hd (e ▸ hall y (hpre y hy)), I.val t fun y hy _ e => hd (e ▸ hall y hy), I.keep x hx t ht, hT0]
    exact (conc_ext I.base _ (F.wf t)).symm
theorem item_take (F : Fixed P C G sz ops ns ρs T0 dsts n1 n2 its) (I : LInv G sz ops ns ρs T0 its w0 out m T H n ρ sp wr outr a w) {x : Item} (hx : x ∈ its) (hrd : RdM ops m x.i) (hfl : isFlt x.o = false) :
    ∃ v, (∀ w', (execOp a.eval x.o).run P w' = .ok (.value v) w') ∧ LInv G sz ops ns ρs T0 its w0 out (with1 m x.i) T H n ρ sp wr outr (a.put x.o.dst v) w := by
  obtain ⟨pre, k, hc, hpre, hf, hk, hkind⟩ := F.chain.fit x hx
  have ht : TakeFit P G T0 pre k x := by
    rcases hkind with h | ⟨ao, H', _, h, _⟩
    · exact h
    · rw [hfl] at h; cases h
  obtain ⟨o, ho, hbit, hdep⟩ := hrd
  rw [hf.op] at ho
  cases ho
  have hrun : ∀ ρ', Good ρs ns its m sp ρ' → ∀ w', (execOp a.eval x.o).run P w' = .ok (.value (x.v.conc ρ')) w' := fun ρ' hg w' => by
    obtain ⟨hs, hA⟩ := item_same F I hx hdep hc hpre hf hg
    have M : Mem w (fun c => c < w.heap.size) G ρ' (hv .leaf) k w := memNil w (fun g hgg => by rw [hg.1 g (Nat.lt_of_lt_of_le hgg F.globs), F.glob g hgg]) (Nat.le_trans F.globs (Nat.le_trans F.le hc.le))
    obtain ⟨g1, _⟩ := xPure_ok (fun y => (hA.ev M y).1) (fun y => (hA.ev M y).2) ht.2.2.1
    rw [← same_exec hs (F.nosel x.i x.o · · hf.op)]
    exact g1 w'
  refine ⟨_, hrun _ (good_G F), ?_⟩
  have hsz : x.t < a.tmps.size := by rw [I.size]; exact hf.lt
  have hgm : ∀ ρ', Good ρs ns its (with1 m x.i) sp ρ' → Good ρs ns its m sp ρ' := fun ρ' hg => ⟨hg.1, fun y hy hyb => hg.2 y hy (by rw [with1_bit, hyb]; rfl)⟩
  have hbits : ∀ y ∈ its, (with1 m x.i).testBit y.i = true → m.testBit y.i = true ∨ y = x := fun y hy hyb => by
    rw [with1_bit, Bool.or_eq_true, decide_eq_true_iff] at hyb
    rcases hyb with h | h
    · exact .inl h
    · right
      obtain ⟨_, _, _, _, fy, _⟩ := F.chain.fit y hy
      have ho := fy.op
      rw [← h, hf.op] at ho
      have ho : x.o = y.o := Option.some.inj ho
      have hd := fy.dst
      rw [← ho, hf.dst] at hd
      exact (F.chain.uniq x hx y hy (Option.some.inj hd)).symm
  rw [hf.dst]
  refine ⟨I.mem, I.base, I.le, by rw [size_put]; exact I.size, by rw [defers_put]; exact I.defers, fun t htt => ?_, I.wf, I.big, I.keep, fun ρ' hg y hy hyb => ?_, fun ρ' hg y hy hyb b ao hob => ?_, fun y hy hyb b ao hob => ?_, fun y hy z hz hyb hzb b ao b' ao' h1 h2 => ?_, I.frm, I.env⟩
  · have hne : t ≠ x.t := fun e => htt x hx (by rw [with1_bit]; simp) e.symm
    rw [getD_put a x.t _ hsz, if_neg hne]
    exact I.val t fun y hy hyb => htt y hy (by rw [with1_bit, hyb]; rfl)
  · rw [getD_put a x.t _ hsz]
    by_cases e : y.t = x.t
    · have := F.chain.uniq y hy x hx e
      subst this
      rw [if_pos rfl]
      have h1 := hrun _ (good_G F) w
      rw [hrun ρ' (hgm ρ' hg) w] at h1
      injection h1 with h1
      injection h1 with h1
      exact h1.symm
    · rw [if_neg e]
      rcases hbits y hy hyb with h | h
      · exact I.itv ρ' (hgm ρ' hg) y hy h
      · exact (e (by rw [h])).elim
  · rcases hbits y hy hyb with h | h
    · exact I.ito ρ' (hgm ρ' hg) y hy h b ao hob
    · rw [h, ht.1] at hob; cases hob
  · rcases hbits y hy hyb with h | h
    · exact I.its1 y hy h b ao hob
    · rw [h, ht.1] at hob; cases hob
  · rcases hbits y hy hyb with h | h
    · rcases hbits z hz hzb with h' | h'
      · exact I.itd y hy z hz h h' b ao b' ao' h1 h2
      · rw [h', ht.1] at h2; cases h2
    · rw [h, ht.1] at h1; cases h1
theorem item_flt (F : Fixed P C G sz ops ns ρs T0 dsts n1 n2 its) (I : LInv G sz ops ns ρs T0 its w0 out m T H n ρ sp wr outr a w) {x : Item} (hx : x ∈ its) (hrd : RdM ops m x.i) (hfl : isFlt x.o = true) {ro : Option Nat} {mm : Nat} {QN : Act → World → Prop} {K' : Act → World → Prop}
    (hK : ∀ v w' sp' outr', LInv G sz ops ns ρs T0 its w0 out (with1 m x.i) T H n ρ sp' w' outr' (a.put x.o.dst v) w' → (∀ c, c < w.heap.size → w'.heap[c]? = w.heap[c]?) → K' (a.put x.o.dst v) w') : wpOpIn (FW ro) mm P ops (QOf QN) x.i K' a w := by
  obtain ⟨pre, k, hc, hpre, hf, hk, hkind⟩ := F.chain.fit x hx
  obtain ⟨ao, H', hob, _, he, hao, hown, hbelow⟩ : FltFit P C G ns T0 pre k x := by
    rcases hkind with ⟨_, h, _⟩ | h
    · rw [hfl] at h; cases h
    · exact h
  obtain ⟨o, ho, hbit, hdep⟩ := hrd
  rw [hf.op] at ho
  cases ho
  have hgG : Good ρs ns its m sp (rhoG ns ρs sp) := good_G F
  obtain ⟨hs, hA⟩ := item_same F I hx hdep hc hpre hf hgG
  have M : Mem w (fun c => c < w.heap.size) G (rhoG ns ρs sp) (hv .leaf) k w := memNil w (fun g hgg => by rw [hgG.1 g (Nat.lt_of_lt_of_le hgg F.globs), F.glob g hgg]) (Nat.le_trans F.globs (Nat.le_trans F.le hc.le))
  have hwp : wpOpIn (FW ro) mm P ops (QOf QN) x.i (fun a' w' => a'.defers = (actOf (rhoG ns ρs sp) (putIts T0 pre) sz).defers ∧ ∃ ρ1, Mem w (fun c => c < w.heap.size) G ρ1 (hv H') (k + 1) w' ∧ (∀ b, b < k → ρ1 b = rhoG ns ρs sp b) ∧ a' = (actOf (rhoG ns ρs sp) (putIts T0 pre) sz).put x.o.dst (x.v.conc ρ1)) (actOf (rhoG ns ρs sp) (putIts T0 pre) sz) w := by
    unfold Go.wpOpIn
    simp only [hf.op, Region.wanted, hf.guard, if_true]
    exact xEff_ok F.cal M (fun y => (hA.ev M y).1) (fun y => (hA.ev M y).2) he fun ρ1 w1 M1 hρ1 hwf hn => ⟨by rw [defers_put], ρ1, M1, hρ1, rfl⟩
  refine wpOpIn_like hf.op (F.nosel x.i x.o · · hf.op) (F.nodef x.i x.o · hf.op) hs (fun a' w' h => h.1) (fun v w' ⟨_, ρ1, M1, hρ1, hput⟩ => ?_) hwp
  have hsz : x.t < a.tmps.size := by rw [I.size]; exact hf.lt
  have hvv : v = x.v.conc ρ1 := by
    have := congrArg (fun b : Act => b.tmps.getD x.t undef) hput
    simp only [hf.dst] at this
    rw [getD_put _ x.t _ (by rw [hs.1]; exact hsz), getD_put _ x.t _ (by rw [hs.1]; exact hsz), if_pos rfl, if_pos rfl] at this
    exact this
  subst hvv
  obtain ⟨hobj, _⟩ := M1.obj k ao hao
  have hblk := M1.blk k ao hao
  have hfresh := M1.apart k ao hao
  have hgrow : ∀ c, c < w.heap.size → w'.heap[c]? = w.heap[c]? := fun c hc => (M1.outs c hc).2
  have hle : w.heap.size ≤ w'.heap.size := by
    rcases Nat.lt_or_ge w'.heap.size w.heap.size with h | h
    · have := (M1.outs w'.heap.size h).1; omega
    · exact h
  have hgm : ∀ ρ', Good ρs ns its (with1 m x.i) (upd sp k (ρ1 k)) ρ' → Good ρs ns its m sp ρ' ∧ ρ' k = ρ1 k := fun ρ' hg => by
    refine ⟨⟨hg.1, fun y hy hyb b ao' hob' => ?_⟩, ?_⟩
    · have hne : b ≠ k := fun e => by
        subst e
        have := F.chain.obUniq y hy x hx b ao' ao hob' hob
        rw [this, hbit] at hyb; cases hyb
      have := hg.2 y hy (by rw [with1_bit, hyb]; rfl) b ao' hob'
      rwa [upd_other _ _ hne] at this
    · have := hg.2 x hx (by rw [with1_bit]; simp) k ao hob
      rwa [upd_same] at this
  have hbits : ∀ y ∈ its, (with1 m x.i).testBit y.i = true → m.testBit y.i = true ∨ y = x := fun y hy hyb => by
    rw [with1_bit, Bool.or_eq_true, decide_eq_true_iff] at hyb
    rcases hyb with h | h
    · exact .inl h
    · right
      obtain ⟨_, _, _, _, fy, _⟩ := F.chain.fit y hy
      have ho := fy.op
      rw [← h, hf.op] at ho
      have ho : x.o = y.o := Option.some.inj ho
      have hd := fy.dst
      rw [← ho, hf.dst] at hd
      exact (F.chain.uniq x hx y hy (Option.some.inj hd)).symm
  have hids : ∀ y ∈ its, m.testBit y.i = true → ∀ b ao', y.ob = some (b, ao') → b ≠ k := fun y hy hyb b ao' hob' e => by
    subst e
    have := F.chain.obUniq y hy x hx b ao' ao hob' hob
    rw [this, hbit] at hyb; cases hyb
  refine hK _ w' (upd sp k (ρ1 k)) (fun c => outr c ∨ c = (ρ1 k).blk) ?_ hgrow
  rw [hf.dst]
  have hlt : ∀ b o, hv H b = some o → (ρ b).blk < w.heap.size := I.mem.blk
  refine ⟨⟨fun b o hb => ⟨objOk_ext (I.mem.lt b o hb) (fun _ _ => rfl) (I.mem.obj b o hb).2 (hgrow _ (hlt b o hb)) (I.mem.obj b o hb).1, (I.mem.obj b o hb).2⟩, I.mem.lt, fun b o hb => Nat.lt_of_lt_of_le (hlt b o hb) hle, I.mem.inj, fun c hc => ⟨?_, rfl⟩, fun b o hb hc => ?_, I.mem.glob, I.mem.globs, ⟨rfl, rfl, rfl⟩⟩,
    I.base, I.le, by rw [size_put]; exact I.size, by rw [defers_put]; exact I.defers, fun t htt => ?_, I.wf, I.big, I.keep, fun ρ' hg y hy hyb => ?_, fun ρ' hg y hy hyb b ao' hob' => ?_, fun y hy hyb b ao' hob' => ?_, fun y hy z hz hyb hzb b ao1 b' ao2 h1 h2 e => ?_, fun c hc => ?_, (I.env.trans I.mem.env).trans M1.env⟩
  · rcases hc with hc | rfl
    · exact Nat.lt_of_lt_of_le (I.mem.outs c hc).1 hle
    · exact hblk
  · rcases hc with hc | hc
    · exact I.mem.apart b o hb hc
    · exact hfresh (by rw [← hc]; exact hlt b o hb)
  · have hne : t ≠ x.t := fun e => htt x hx (by rw [with1_bit]; simp) e.symm
    rw [getD_put a x.t _ hsz, if_neg hne]
    exact I.val t fun y hy hyb => htt y hy (by rw [with1_bit, hyb]; rfl)
  · rw [getD_put a x.t _ hsz]
    by_cases e : y.t = x.t
    · have := F.chain.uniq y hy x hx e
      subst this
      rw [if_pos rfl]
      exact (own_conc hown (hgm ρ' hg).2).symm
    · rw [if_neg e]
      rcases hbits y hy hyb with h | h
      · exact I.itv ρ' (hgm ρ' hg).1 y hy h
      · exact (e (by rw [h])).elim
  · rcases hbits y hy hyb with h | h
    · have ho := I.ito ρ' (hgm ρ' hg).1 y hy h b ao' hob'
      have hsp : ρ' b = sp b := (hgm ρ' hg).1.2 y hy h b ao' hob'
      refine objOk_two (n := ns) rfl (fun _ _ => rfl) (F.chain.ob y hy b ao' hob').2.2.2.1 ?_ ho
      rw [hsp]
      exact hgrow _ (I.mem.outs _ (I.its1 y hy h b ao' hob').1).1
    · subst h
      rw [hob] at hob'
      cases hob'
      refine objOk_two (n := ns) (hgm ρ' hg).2 (fun c hcs => ?_) hbelow rfl hobj
      rw [hg.1 c hcs]
      have h1 : c < k := Nat.lt_of_lt_of_le hcs (Nat.le_trans F.le hc.le)
      have : ρ1 c = rhoG ns ρs sp c := hρ1 c h1
      rw [this]
      simp [rhoG, hcs]
  · rcases hbits y hy hyb with h | h
    · rw [upd_other _ _ (hids y hy h b ao' hob')]
      exact ⟨.inl (I.its1 y hy h b ao' hob').1, (I.its1 y hy h b ao' hob').2⟩
    · subst h
      rw [hob] at hob'
      cases hob'
      rw [upd_same]
      exact ⟨.inr rfl, fun ho => hfresh (I.mem.outs _ (I.frm _ ho).1).1⟩
  · have hx1 : ∀ y ∈ its, m.testBit y.i = true → ∀ b ao', y.ob = some (b, ao') → (sp b).blk ≠ (ρ1 k).blk := fun y hy hyb b ao' hob' e => hfresh (by rw [← e]; exact (I.mem.outs _ (I.its1 y hy hyb b ao' hob').1).1)
    rcases hbits y hy hyb with h | h
    · rw [upd_other _ _ (hids y hy h b ao1 h1)] at e
      rcases hbits z hz hzb with h' | h'
      · rw [upd_other _ _ (hids z hz h' b' ao2 h2)] at e
        exact I.itd y hy z hz h h' b ao1 b' ao2 h1 h2 e
      · subst h'
        rw [hob] at h2
        cases h2
        rw [upd_same] at e
        exact (hx1 y hy h b ao1 h1 e).elim
    · subst h
      rw [hob] at h1
      cases h1
      rw [upd_same] at e
      rcases hbits z hz hzb with h' | h'
      · rw [upd_other _ _ (hids z hz h' b' ao2 h2)] at e
        exact (hx1 z hz h' b' ao2 h2 e.symm).elim
      · subst h'
        rw [hob] at h2
        cases h2
        rfl
  · obtain ⟨h1, h2⟩ := I.frm c hc
    obtain ⟨h3, h4⟩ := I.mem.outs c h1
    exact ⟨.inl h1, by rw [hgrow c h3, h4, h2]⟩
/-- where line and blocks are done -/
theorem lane_end (F : Fixed P C G sz ops ns ρs T0 dsts n1 n2 its) (I : LInv G sz ops ns ρs T0 its w0 out m T H n1 ρ sp wr outr a w) (hall : ∀ x ∈ its, m.testBit x.i = true) :
    ∃ ρ2, ActOk ρ2 n2 (putIts T its) sz a ∧ Mem w0 out G ρ2 (hv (putObs H its)) n2 w ∧ (∀ b, b < ns → ρ2 b = ρs b) ∧ ns ≤ n2 := by
  have hn : n1 ≤ n2 := F.chain.le
  have hl : ∀ b, b < n1 → (fun b => if b < n1 then ρ b else sp b) b = ρ b := fun b hb => by simp [hb]
  have hsp : ∀ x ∈ its, ∀ b ao, x.ob = some (b, ao) → (if b < n1 then ρ b else sp b) = sp b := fun x hx b ao hob => by
    rw [if_neg (by have := (F.chain.ob x hx b ao hob).1; omega)]
  have hg : Good ρs ns its m sp (fun b => if b < n1 then ρ b else sp b) := ⟨fun b hb => by
    rw [← I.base b hb]
    exact hl b (Nat.lt_of_lt_of_le hb F.le), fun x hx _ b ao hob => hsp x hx b ao hob⟩
  have hcase : ∀ b o, hv (putObs H its) b = some o → (∃ x ∈ its, x.ob = some (b, o)) ∨ (hv H b = some o ∧ b < n1) := fun b o hb => by
    by_cases h : ∃ x ∈ its, ∃ ao, x.ob = some (b, ao)
    · obtain ⟨x, hx, ao, hob⟩ := h
      rw [(F.chain.obs H).1 x hx b ao hob] at hb
      cases hb
      exact .inl ⟨x, hx, hob⟩
    · rw [(F.chain.obs H).2 b fun x hx ao e => h ⟨x, hx, ao, e⟩] at hb
      exact .inr ⟨hb, I.mem.lt b o hb⟩
  refine ⟨_, ⟨I.size, fun t => ?_, fun t => ?_, ?_⟩, ⟨fun b o hb => ?_, fun b o hb => ?_, fun b o hb => ?_, fun b b' o o' hb hb' e => ?_, fun c hc => ?_, fun b o hb => ?_, fun g hgg => ?_, ?_, I.env.trans I.mem.env⟩, hg.1, Nat.le_trans F.le hn⟩
  · by_cases h : ∃ x ∈ its, x.t = t
    · obtain ⟨x, hx, rfl⟩ := h
      rw [(F.chain.get T).1 x hx]
      exact I.itv _ hg x hx (hall x hx)
    · rw [(F.chain.get T).2 t fun x hx e => h ⟨x, hx, e⟩, I.val t fun x hx _ e => h ⟨x, hx, e⟩]
      exact (conc_ext hl _ (I.wf t)).symm
  · by_cases h : ∃ x ∈ its, x.t = t
    · obtain ⟨x, hx, rfl⟩ := h
      rw [(F.chain.get T).1 x hx]
      exact F.chain.wf _ (Nat.le_refl _) x hx
    · rw [(F.chain.get T).2 t fun x hx e => h ⟨x, hx, e⟩]
      exact wf_ext hl hn _ (I.wf t)
  · rw [(F.chain.get T).2 510 fun x hx e => by obtain ⟨_, _, _, _, f, _⟩ := F.chain.fit x hx; have := f.lt2; omega, I.defers]
    exact (marksOf_ext hl _ (markL_wf (I.wf 510))).symm
  · rcases hcase b o hb with ⟨x, hx, hob⟩ | ⟨hb, hlt⟩
    · exact ⟨I.ito _ hg x hx (hall x hx) b o hob, aoWf_ext (n := ns) (ρ := ρs) hg.1 (Nat.le_trans F.le hn) (aoBelow_wf ρs (F.chain.ob x hx b o hob).2.2.2.1)⟩
    · exact ⟨objOk_ext hlt hl (I.mem.obj b o hb).2 rfl (I.mem.obj b o hb).1, aoWf_ext hl hn (I.mem.obj b o hb).2⟩
  · rcases hcase b o hb with ⟨x, hx, hob⟩ | ⟨hb, hlt⟩
    · exact (F.chain.ob x hx b o hob).2.1
    · omega
  · rcases hcase b o hb with ⟨x, hx, hob⟩ | ⟨hb, hlt⟩
    · simp only [hsp x hx b o hob]; exact (I.mem.outs _ (I.its1 x hx (hall x hx) b o hob).1).1
    · simp only [hl b hlt, if_pos hlt]; exact I.mem.blk b o hb
  · rcases hcase b o hb with ⟨x, hx, hob⟩ | ⟨hb, hlt⟩ <;> rcases hcase b' o' hb' with ⟨x', hx', hob'⟩ | ⟨hb', hlt'⟩
    · simp only [hsp x hx b o hob, hsp x' hx' b' o' hob'] at e
      exact I.itd x hx x' hx' (hall x hx) (hall x' hx') b o b' o' hob hob' e
    · simp only [hsp x hx b o hob, if_pos hlt'] at e
      exact (I.mem.apart b' o' hb' (e ▸ (I.its1 x hx (hall x hx) b o hob).1)).elim
    · simp only [if_pos hlt, hsp x' hx' b' o' hob'] at e
      exact (I.mem.apart b o hb (e ▸ (I.its1 x' hx' (hall x' hx') b' o' hob').1)).elim
    · simp only [if_pos hlt, if_pos hlt'] at e
      exact I.mem.inj b b' o o' hb hb' e
  · obtain ⟨h1, h2⟩ := I.frm c hc
    obtain ⟨h3, h4⟩ := I.mem.outs c h1
    exact ⟨h3, by rw [h4, h2]⟩
  · rcases hcase b o hb with ⟨x, hx, hob⟩ | ⟨hb, hlt⟩
    · simp only [hsp x hx b o hob]; exact (I.its1 x hx (hall x hx) b o hob).2
    · simp only [if_pos hlt]; exact fun ho => I.mem.apart b o hb (I.frm _ ho).1
  · exact (hg.1 g (Nat.lt_of_lt_of_le hgg F.globs)).trans (F.glob g hgg)
  · exact Nat.le_trans I.mem.globs hn
end
end
end Cx
end Go.Proofs.YtcpkihikmpkdnaaGreatDoor
