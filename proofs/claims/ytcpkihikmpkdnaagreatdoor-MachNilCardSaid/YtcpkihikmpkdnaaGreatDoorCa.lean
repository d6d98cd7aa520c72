/- A verified executor of closed calls, part 1: trees, values whose blocks go by names, what they stand for. -/
import Derived.Handy
import Derived.OrdersHeld
import Derived.LoopN
set_option linter.unusedVariables false
set_option linter.unusedSimpArgs false
namespace Go.Proofs.YtcpkihikmpkdnaaGreatDoor
namespace Cx
noncomputable section
/-! ### a tree keyed by numbers -/
inductive Tr (α : Type) where
  | leaf
  | node (l : Tr α) (v : Option α) (r : Tr α)
namespace Tr
variable {α : Type}
theorem cond_rec {β : Type} (c : Bool) (x y : β) : (bif c then x else y) = Bool.rec (motive := fun _ => β) y x c := by cases c <;> rfl
/-- by the recursor itself: the kernel's steps are few -/
def find (t : Tr α) : Nat → Option α :=
  Tr.rec (motive := fun _ => Nat → Option α) (fun _ => none) (fun _ v _ fl fr k => Bool.rec (motive := fun _ => Option α) (Bool.rec (motive := fun _ => Option α) (fr (Nat.sub (Nat.div k 2) 1)) (fl (Nat.div k 2)) (Nat.beq (Nat.mod k 2) 1)) v (Nat.beq k 0)) t
def get (_ : Nat) (t : Tr α) (k : Nat) : Option α := find t k
def one (x : Option α) (f : Nat) : Nat → Tr α :=
  Nat.rec (motive := fun _ => Nat → Tr α) (fun _ => leaf) (fun _ ih k => Bool.rec (motive := fun _ => Tr α) (Bool.rec (motive := fun _ => Tr α) (node leaf none (ih (Nat.sub (Nat.div k 2) 1))) (node (ih (Nat.div k 2)) none leaf) (Nat.beq (Nat.mod k 2) 1)) (node leaf x leaf) (Nat.beq k 0)) f
def put (x : Option α) (t : Tr α) : Nat → Nat → Tr α :=
  Tr.rec (motive := fun _ => Nat → Nat → Tr α) (fun f k => one x f k) (fun l v r fl fr f k => Bool.rec (motive := fun _ => Tr α) (Bool.rec (motive := fun _ => Tr α) (node l v (fr (Nat.sub f 1) (Nat.sub (Nat.div k 2) 1))) (node (fl (Nat.sub f 1) (Nat.div k 2)) v r) (Nat.beq (Nat.mod k 2) 1)) (node l x r) (Nat.beq k 0)) t
def set (f : Nat) (t : Tr α) (k : Nat) (x : Option α) : Tr α := put x t f k
theorem get_leaf (f k : Nat) : get f (leaf : Tr α) k = none := rfl
theorem beq_dec (a b : Nat) : a.beq b = decide (a = b) := by
  by_cases e : a = b
  · subst e; simp
  · have : a.beq b = false := by cases hb : a.beq b with
      | false => rfl
      | true => exact absurd (Nat.eq_of_beq_eq_true hb) e
    simp [this, e]
theorem find_node (l : Tr α) (v : Option α) (r : Tr α) (k : Nat) : find (node l v r) k = if k = 0 then v else if k % 2 = 1 then find l (k / 2) else find r (k / 2 - 1) := by
  have e : find (node l v r) k = (bif k.beq 0 then v else bif (Nat.mod k 2).beq 1 then find l (k / 2) else find r (k / 2 - 1)) := by rw [cond_rec, cond_rec]; rfl
  rw [e]
  rw [beq_dec, beq_dec, show Nat.mod k 2 = k % 2 from rfl]
  by_cases h1 : k = 0 <;> by_cases h2 : k % 2 = 1 <;> simp [h1, h2]
theorem find_one (x : Option α) : ∀ (f k j : Nat), k + 1 < 2 ^ f → find (one x f k) j = if j = k then x else none
  | 0, k, j, h => by simp at h
  | f + 1, k, j, h => by
    have hp : 2 ^ (f + 1) = 2 * 2 ^ f := by rw [Nat.pow_succ, Nat.mul_comm]
    have e : one x (f + 1) k = (bif k.beq 0 then node leaf x leaf else bif (Nat.mod k 2).beq 1 then node (one x f (k / 2)) none leaf else node leaf none (one x f (k / 2 - 1))) := by rw [cond_rec, cond_rec]; rfl
    have hl : ∀ i, find (leaf : Tr α) i = none := fun _ => rfl
    rw [e, beq_dec, beq_dec]
    by_cases hk : k = 0
    · simp only [hk, decide_true, cond_true, find_node, hl]
      by_cases hj : j = 0 <;> simp [hj]
    · by_cases hk2 : k % 2 = 1
      · have hk2' : Nat.mod k 2 = 1 := hk2
        simp only [hk, decide_false, cond_false, hk2', decide_true, cond_true, find_node, hl]
        rw [find_one x f (k / 2) (j / 2) (by omega)]
        by_cases hj : j = 0
        · simp [hj, show ¬ (0 = k) from fun e => hk e.symm]
        · by_cases hj2 : j % 2 = 1
          · by_cases e : j = k
            · simp [e, hk, hk2]
            · have : ¬ j / 2 = k / 2 := by omega
              simp [hj, hj2, e, this]
          · have : ¬ j = k := by intro e; rw [e] at hj2; exact hj2 hk2
            simp [hj, hj2, this]
      · have hk2' : ¬ Nat.mod k 2 = 1 := hk2
        simp only [hk, decide_false, cond_false, hk2', find_node, hl]
        rw [find_one x f (k / 2 - 1) (j / 2 - 1) (by omega)]
        by_cases hj : j = 0
        · simp [hj, show ¬ (0 = k) from fun e => hk e.symm]
        · by_cases hj2 : j % 2 = 1
          · have : ¬ j = k := by intro e; rw [e] at hj2; exact hk2 hj2
            simp [hj, hj2, this]
          · by_cases e : j = k
            · simp [e, hk, hk2]
            · have : ¬ j / 2 - 1 = k / 2 - 1 := by omega
              simp [hj, hj2, e, this]
theorem find_put (x : Option α) : ∀ (t : Tr α) (f k j : Nat), k + 1 < 2 ^ f → find (put x t f k) j = if j = k then x else find t j
  | leaf, f, k, j, h => find_one x f k j h
  | node l v r, 0, k, j, h => by simp at h
  | node l v r, f + 1, k, j, h => by
    have hp : 2 ^ (f + 1) = 2 * 2 ^ f := by rw [Nat.pow_succ, Nat.mul_comm]
    have e : put x (node l v r) (f + 1) k = (bif k.beq 0 then node l x r else bif (Nat.mod k 2).beq 1 then node (put x l f (k / 2)) v r else node l v (put x r f (k / 2 - 1))) := by rw [cond_rec, cond_rec]; rfl
    rw [e, beq_dec, beq_dec]
    by_cases hk : k = 0
    · simp only [hk, decide_true, cond_true, find_node]
      by_cases hj : j = 0 <;> simp [hj]
    · by_cases hk2 : k % 2 = 1
      · have hk2' : Nat.mod k 2 = 1 := hk2
        simp only [hk, decide_false, cond_false, hk2', decide_true, cond_true, find_node]
        rw [find_put x l f (k / 2) (j / 2) (by omega)]
        by_cases hj : j = 0
        · simp [hj, show ¬ (0 = k) from fun e => hk e.symm]
        · by_cases hj2 : j % 2 = 1
          · by_cases e : j = k
            · simp [e, hk, hk2]
            · have : ¬ j / 2 = k / 2 := by omega
              simp [hj, hj2, e, this]
          · have : ¬ j = k := by intro e; rw [e] at hj2; exact hj2 hk2
            simp [hj, hj2, this]
      · have hk2' : ¬ Nat.mod k 2 = 1 := hk2
        simp only [hk, decide_false, cond_false, hk2', find_node]
        rw [find_put x r f (k / 2 - 1) (j / 2 - 1) (by omega)]
        by_cases hj : j = 0
        · simp [hj, show ¬ (0 = k) from fun e => hk e.symm]
        · by_cases hj2 : j % 2 = 1
          · have : ¬ j = k := by intro e; rw [e] at hj2; exact hk2 hj2
            simp [hj, hj2, this]
          · by_cases e : j = k
            · simp [e, hk, hk2]
            · have : ¬ j / 2 - 1 = k / 2 - 1 := by omega
              simp [hj, hj2, e, this]
theorem get_set (f : Nat) (t : Tr α) (k j : Nat) (x : Option α) (h : k + 1 < 2 ^ f) : get f (set f t k x) j = if j = k then x else get f t j := find_put x t f k j h
end Tr
/-! ### values -/
/-- where a named block lies: its block's number, its first cell, how many elements fit behind it -/
structure Spot where
  blk : Nat
  base : Nat
  room : Nat
abbrev Env := Nat → Spot
inductive AV where
  | lit (v : Value)
  | ptr (b o : Nat)
  | slc (b o o' j len : Nat) (c : Option Nat)
  | mp (b : Nat)
  | agg (l : List AV)
  | tup (l : List AV)
  | ifc (t : TypeId) (v : AV)
  | fn (f : Fn) (xs ys : List AV)
  | yld (b : Nat)
  | mrk (l : List Nat)
abbrev Tm := Tr AV
/-- what a slot holds -/
def tget (T : Tm) (t : Nat) : AV := match Tr.get 9 T t with
  | some v => v
  | none => .lit undef
/-- what a slice's room stands for -/
def capOf (ρ : Env) (b j : Nat) : Option Nat → Nat
  | some n => n
  | none => (ρ b).room - j
mutual
def AV.conc (ρ : Env) : AV → Value
  | .lit v => v
  | .ptr b o => .pointer (some ⟨(ρ b).blk, (ρ b).base + o, none⟩)
  | .slc b o o' j len c => .slice (some ⟨(ρ b).blk, (ρ b).base + (if (ρ b).room = j then o else o'), none⟩) len (capOf ρ b j c)
  | .mp b => .map (some (ρ b).blk)
  | .agg l => .agg ⟨AV.concs ρ l⟩
  | .tup l => .tuple ⟨AV.concs ρ l⟩
  | .ifc t v => .iface t (AV.conc ρ v)
  | .fn f xs ys => .func f ⟨AV.concs ρ xs⟩ ⟨AV.concs ρ ys⟩
  | .yld b => .func (.yield (ρ b).blk) #[] #[]
  | .mrk _ => .tuple #[]
def AV.concs (ρ : Env) : List AV → List Value
  | [] => []
  | v :: l => AV.conc ρ v :: AV.concs ρ l
end
mutual
def AV.wf (ρ : Env) (n : Nat) : AV → Prop
  | .lit _ => True
  | .ptr b _ => b < n
  | .slc b _ _ j len c => b < n ∧ (c = none → j + len ≤ (ρ b).room) ∧ (∀ k, c = some k → len ≤ k)
  | .mp b => b < n
  | .agg l => AV.wfs ρ n l
  | .tup l => AV.wfs ρ n l
  | .ifc _ v => AV.wf ρ n v
  | .fn _ xs ys => AV.wfs ρ n xs ∧ AV.wfs ρ n ys
  | .yld b => b < n
  | .mrk l => ∀ b ∈ l, b < n
def AV.wfs (ρ : Env) (n : Nat) : List AV → Prop
  | [] => True
  | v :: l => AV.wf ρ n v ∧ AV.wfs ρ n l
end
theorem concs_map (ρ : Env) : ∀ l : List AV, AV.concs ρ l = l.map (AV.conc ρ)
  | [] => rfl
  | v :: l => by simp [AV.concs, concs_map ρ l]
theorem wfs_iff (ρ : Env) (n : Nat) : ∀ l : List AV, AV.wfs ρ n l ↔ ∀ v ∈ l, AV.wf ρ n v
  | [] => by simp [AV.wfs]
  | v :: l => by simp [AV.wfs, wfs_iff ρ n l]
theorem capOf_ext {ρ ρ' : Env} {b j : Nat} {c : Option Nat} (h : ρ' b = ρ b) : capOf ρ' b j c = capOf ρ b j c := by cases c <;> simp only [capOf, h]
mutual
theorem conc_ext {n : Nat} {ρ ρ' : Env} (h : ∀ b, b < n → ρ' b = ρ b) : ∀ v : AV, v.wf ρ n → v.conc ρ' = v.conc ρ
  | .lit _, _ => rfl
  | .ptr b _, hw => by simp only [AV.wf] at hw; simp only [AV.conc, h b hw]
  | .slc b _ _ _ _ _, hw => by simp only [AV.wf] at hw; simp only [AV.conc, capOf_ext (h b hw.1), h b hw.1]
  | .mp b, hw => by simp only [AV.wf] at hw; simp only [AV.conc, h b hw]
  | .agg l, hw => by simp only [AV.wf] at hw; simp only [AV.conc, concs_ext h l hw]
  | .tup l, hw => by simp only [AV.wf] at hw; simp only [AV.conc, concs_ext h l hw]
  | .ifc _ v, hw => by simp only [AV.wf] at hw; simp only [AV.conc, conc_ext h v hw]
  | .fn _ xs ys, hw => by simp only [AV.wf] at hw; simp only [AV.conc, concs_ext h xs hw.1, concs_ext h ys hw.2]
  | .yld b, hw => by simp only [AV.wf] at hw; simp only [AV.conc, h b hw]
  | .mrk _, _ => rfl
theorem concs_ext {n : Nat} {ρ ρ' : Env} (h : ∀ b, b < n → ρ' b = ρ b) : ∀ l : List AV, AV.wfs ρ n l → AV.concs ρ' l = AV.concs ρ l
  | [], _ => rfl
  | v :: l, hw => by simp only [AV.wfs] at hw; simp only [AV.concs, conc_ext h v hw.1, concs_ext h l hw.2]
end
mutual
theorem wf_ext {n m : Nat} {ρ ρ' : Env} (h : ∀ b, b < n → ρ' b = ρ b) (hm : n ≤ m) : ∀ v : AV, v.wf ρ n → v.wf ρ' m
  | .lit _, _ => by simp only [AV.wf]
  | .ptr b _, hw => by simp only [AV.wf] at *; omega
  | .slc b _ _ _ _ _, hw => by simp only [AV.wf] at *; rw [h b hw.1]; exact ⟨Nat.lt_of_lt_of_le hw.1 hm, hw.2⟩
  | .mp b, hw => by simp only [AV.wf] at *; omega
  | .agg l, hw => by simp only [AV.wf] at *; exact wfs_ext h hm l hw
  | .tup l, hw => by simp only [AV.wf] at *; exact wfs_ext h hm l hw
  | .ifc _ v, hw => by simp only [AV.wf] at *; exact wf_ext h hm v hw
  | .fn _ xs ys, hw => by simp only [AV.wf] at *; exact ⟨wfs_ext h hm xs hw.1, wfs_ext h hm ys hw.2⟩
  | .yld b, hw => by simp only [AV.wf] at *; omega
  | .mrk l, hw => by simp only [AV.wf] at *; exact fun b hb => Nat.lt_of_lt_of_le (hw b hb) hm
theorem wfs_ext {n m : Nat} {ρ ρ' : Env} (h : ∀ b, b < n → ρ' b = ρ b) (hm : n ≤ m) : ∀ l : List AV, AV.wfs ρ n l → AV.wfs ρ' m l
  | [], _ => by simp only [AV.wfs]
  | v :: l, hw => by simp only [AV.wfs] at *; exact ⟨wf_ext h hm v hw.1, wfs_ext h hm l hw.2⟩
end
/-! ### memory -/
inductive AO where
  | cells (l : List AV) (e : Nat) (x : TypeId × Bool)
  | map (es : List (Value × AV × Nat)) (clock : Nat)
  | loop (busy : Bool) (sz : Nat) (T : Tm) (ps : Array Tmp) (assign body : Code)
  | dfr
abbrev Hp := Tr AO
/-- what a named block stands for -/
def ObjOk (ρ : Env) (w : World) (b : Nat) : AO → Prop
  | .cells l e x => ∃ (c : Array Value) (t : TypeId), w.heap[(ρ b).blk]? = some (.cells c t (0, 0)) ∧ (∀ (i : Nat) (v : AV), l[i]? = some v → c[(ρ b).base + i]? = some (v.conc ρ)) ∧ l.length ≤ (ρ b).room * e ∧ (ρ b).base + (ρ b).room * e ≤ c.size ∧ t = x.1 ∧ (ρ b).base = 0 ∧ (x.2 = true → c.size = l.length)
  | .map es clock => w.heap[(ρ b).blk]? = some (.map ⟨es.map fun x => { key := x.1, val := x.2.1.conc ρ, born := x.2.2 }⟩ clock)
  | .loop busy sz T ps assign body => ∃ (fn : FuncId) (tmps : Array Value) (d : Nat), w.heap[(ρ b).blk]? = some (.loop { state := if busy then .busy else .ready, pending := none, fn, tmps, params := ps, assign, body, defers := d }) ∧ tmps.size = sz ∧ ∀ t, tmps.getD t undef = (tget T t).conc ρ
  | .dfr => w.heap[(ρ b).blk]? = some (.deferred (some []))
def AO.wf (ρ : Env) (n : Nat) : AO → Prop
  | .cells l _ _ => AV.wfs ρ n l
  | .map es _ => ∀ x ∈ es, AV.wf ρ n x.2.1
  | .loop _ _ T _ _ _ => ∀ t, (tget T t).wf ρ n
  | .dfr => True
/-- outside memory all is as it was -/
abbrev SameEnv (w w' : World) : Prop := w'.os = w.os ∧ w'.tape = w.tape ∧ w'.output = w.output
theorem SameEnv.trans {a b c : World} (h : SameEnv a b) (k : SameEnv b c) : SameEnv a c := ⟨k.1.trans h.1, k.2.1.trans h.2.1, k.2.2.trans h.2.2⟩
/-- the whole: names below n, blocks told apart, and what lies outside as it was in w0 -/
structure Mem (w0 : World) (out : Nat → Prop) (G : Nat) (ρ : Env) (h : Nat → Option AO) (n : Nat) (w : World) : Prop where
  obj : ∀ b o, h b = some o → ObjOk ρ w b o ∧ AO.wf ρ n o
  lt : ∀ b o, h b = some o → b < n
  blk : ∀ b o, h b = some o → (ρ b).blk < w.heap.size
  inj : ∀ b b' o o', h b = some o → h b' = some o' → (ρ b).blk = (ρ b').blk → b = b'
  outs : ∀ c, out c → c < w.heap.size ∧ w.heap[c]? = w0.heap[c]?
  apart : ∀ b o, h b = some o → ¬ out (ρ b).blk
  glob : ∀ g, g < G → ρ g = ⟨g, 0, 1⟩
  globs : G ≤ n
  env : SameEnv w0 w
end
end Cx
end Go.Proofs.YtcpkihikmpkdnaaGreatDoor
