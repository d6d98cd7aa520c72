/- A verified executor of closed calls, part 1: trees, values whose blocks go by names, what they stand for. A verified executor of closed calls, part 2: operations that make no memory. A verified executor of closed calls, part 3: slices of slices, aggregates, builtins that make no memory, loads. A verified executor of closed calls, part 4: all operations that make no memory and read none; loads; look-ups. -/
import Derived.Handy
import Derived.OrdersHeld
import Derived.LoopN
set_option linter.unusedVariables false
set_option linter.unusedSimpArgs false
set_option linter.unusedVariables false
set_option linter.unusedSimpArgs false
namespace Go.Proofs.YtboondbognbnnaaGreatDoor
namespace Cx
noncomputable section
/-! ### a tree keyed by numbers -/
inductive Tr (α : Type) where
  | leaf
  | node (l : Tr α) (v : Option α) (r : Tr α)
namespace Tr
variable {α : Type}
theorem cond_rec {β : Type} (c : Bool) (x y : β) : (bif c then x else y) = Bool.rec (motive := fun _ => β) y x c := by cases c <;> rfl
/-- by the recursor itself: the kernel's steps are few -/
def find (t : Tr α) : Nat → Option α :=
  Tr.rec (motive := fun _ => Nat → Option α) (fun _ => none) (fun _ v _ fl fr k => Bool.rec (motive := fun _ => Option α) (Bool.rec (motive := fun _ => Option α) (fr (Nat.sub (Nat.div k 2) 1)) (fl (Nat.div k 2)) (Nat.beq (Nat.mod k 2) 1)) v (Nat.beq k 0)) t
def get (_ : Nat) (t : Tr α) (k : Nat) : Option α := find t k
def one (x : Option α) (f : Nat) : Nat → Tr α :=
  Nat.rec (motive := fun _ => Nat → Tr α) (fun _ => leaf) (fun _ ih k => Bool.rec (motive := fun _ => Tr α) (Bool.rec (motive := fun _ => Tr α) (node leaf none (ih (Nat.sub (Nat.div k 2) 1))) (node (ih (Nat.div k 2)) none leaf) (Nat.beq (Nat.mod k 2) 1)) (node leaf x leaf) (Nat.beq k 0)) f
def put (x : Option α) (t : Tr α) : Nat → Nat → Tr α :=
  Tr.rec (motive := fun _ => Nat → Nat → Tr α) (fun f k => one x f k) (fun l v r fl fr f k => Bool.rec (motive := fun _ => Tr α) (Bool.rec (motive := fun _ => Tr α) (node l v (fr (Nat.sub f 1) (Nat.sub (Nat.div k 2) 1))) (node (fl (Nat.sub f 1) (Nat.div k 2)) v r) (Nat.beq (Nat.mod k 2) 1)) (node l x r) (Nat.beq k 0)) t
def set (f : Nat) (t : Tr α) (k : Nat) (x : Option α) : Tr α := put x t f k
theorem get_leaf (f k : Nat) : get f (leaf : Tr α) k = none := rfl
theorem beq_dec (a b : Nat) : a.beq b = decide (a = b) := by
  by_cases e : a = b
  · subst e; simp
  · have : a.beq b = false := by cases hb : a.beq b with
      | false => rfl
      | true => exact absurd (Nat.eq_of_beq_eq_true hb) e
    simp [this, e]
theorem find_node (l : Tr α) (v : Option α) (r : Tr α) (k : Nat) : find (node l v r) k = if k = 0 then v else if k % 2 = 1 then find l (k / 2) else find r (k / 2 - 1) := by
  have e : find (node l v r) k = (bif k.beq 0 then v else bif (Nat.mod k 2).beq 1 then find l (k / 2) else find r (k / 2 - 1)) := by rw [cond_rec, cond_rec]; rfl
  rw [e]
  rw [beq_dec, beq_dec, show Nat.mod k 2 = k % 2 from rfl]
  by_cases h1 : k = 0 <;> by_cases h2 : k % 2 = 1 <;> simp [h1, h2]
theorem find_one (x : Option α) : ∀ (f k j : Nat), k + 1 < 2 ^ f → find (one x f k) j = if j = k then x else none
  | 0, k, j, h => by simp at h
  | f + 1, k, j, h => by
    have hp : 2 ^ (f + 1) = 2 * 2 ^ f := by rw [Nat.pow_succ, Nat.mul_comm]
    have e : one x (f + 1) k = (bif k.beq 0 then node leaf x leaf else bif (Nat.mod k 2).beq 1 then node (one x f (k / 2)) none leaf else node leaf none (one x f (k / 2 - 1))) := by rw [cond_rec, cond_rec]; rfl
    have hl : ∀ i, find (leaf : Tr α) i = none := fun _ => rfl
    rw [e, beq_dec, beq_dec]
    by_cases hk : k = 0
    · simp only [hk, decide_true, cond_true, find_node, hl]
      by_cases hj : j = 0 <;> simp [hj]
    · by_cases hk2 : k % 2 = 1
      · have hk2' : Nat.mod k 2 = 1 := hk2
        simp only [hk, decide_false, cond_false, hk2', decide_true, cond_true, find_node, hl]
        rw [find_one x f (k / 2) (j / 2) (by omega)]
        by_cases hj : j = 0
        · simp [hj, show ¬ (0 = k) from fun e => hk e.symm]
        · by_cases hj2 : j % 2 = 1
          · by_cases e : j = k
            · simp [e, hk, hk2]
            · have : ¬ j / 2 = k / 2 := by omega
              simp [hj, hj2, e, this]
          · have : ¬ j = k := by intro e; rw [e] at hj2; exact hj2 hk2
            simp [hj, hj2, this]
      · have hk2' : ¬ Nat.mod k 2 = 1 := hk2
        simp only [hk, decide_false, cond_false, hk2', find_node, hl]
        rw [find_one x f (k / 2 - 1) (j / 2 - 1) (by omega)]
        by_cases hj : j = 0
        · simp [hj, show ¬ (0 = k) from fun e => hk e.symm]
        · by_cases hj2 : j % 2 = 1
          · have : ¬ j = k := by intro e; rw [e] at hj2; exact hk2 hj2
            simp [hj, hj2, this]
          · by_cases e : j = k
            · simp [e, hk, hk2]
            · have : ¬ j / 2 - 1 = k / 2 - 1 := by omega
              simp [hj, hj2, e, this]
theorem find_put (x : Option α) : ∀ (t : Tr α) (f k j : Nat), k + 1 < 2 ^ f → find (put x t f k) j = if j = k then x else find t j
  | leaf, f, k, j, h => find_one x f k j h
  | node l v r, 0, k, j, h => by simp at h
  | node l v r, f + 1, k, j, h => by
    have hp : 2 ^ (f + 1) = 2 * 2 ^ f := by rw [Nat.pow_succ, Nat.mul_comm]
    have e : put x (node l v r) (f + 1) k = (bif k.beq 0 then node l x r else bif (Nat.mod k 2).beq 1 then node (put x l f (k / 2)) v r else node l v (put x r f (k / 2 - 1))) := by rw [cond_rec, cond_rec]; rfl
    rw [e, beq_dec, beq_dec]
    by_cases hk : k = 0
    · simp only [hk, decide_true, cond_true, find_node]
      by_cases hj : j = 0 <;> simp [hj]
    · by_cases hk2 : k % 2 = 1
      · have hk2' : Nat.mod k 2 = 1 := hk2
        simp only [hk, decide_false, cond_false, hk2', decide_true, cond_true, find_node]
        rw [find_put x l f (k / 2) (j / 2) (by omega)]
        by_cases hj : j = 0
        · simp [hj, show ¬ (0 = k) from fun e => hk e.symm]
        · by_cases hj2 : j % 2 = 1
          · by_cases e : j = k
            · simp [e, hk, hk2]
            · have : ¬ j / 2 = k / 2 := by omega
              simp [hj, hj2, e, this]
          · have : ¬ j = k := by intro e; rw [e] at hj2; exact hj2 hk2
            simp [hj, hj2, this]
      · have hk2' : ¬ Nat.mod k 2 = 1 := hk2
        simp only [hk, decide_false, cond_false, hk2', find_node]
        rw [find_put x r f (k / 2 - 1) (j / 2 - 1) (by omega)]
        by_cases hj : j = 0
        · simp [hj, show ¬ (0 = k) from fun e => hk e.symm]
        · by_cases hj2 : j % 2 = 1
          · have : ¬ j = k := by intro e; rw [e] at hj2; exact hk2 hj2
            simp [hj, hj2, this]
          · by_cases e : j = k
            · simp [e, hk, hk2]
            · have : ¬ j / 2 - 1 = k / 2 - 1 := by omega
              simp [hj, hj2, e, this]
theorem get_set (f : Nat) (t : Tr α) (k j : Nat) (x : Option α) (h : k + 1 < 2 ^ f) : get f (set f t k x) j = if j = k then x else get f t j := find_put x t f k j h
end Tr
/-! ### values -/
/-- where a named block lies: its block's number, its first cell, how many elements fit behind it -/
structure Spot where
  blk : Nat
  base : Nat
  room : Nat
abbrev Env := Nat → Spot
inductive AV where
  | lit (v : Value)
  | ptr (b o : Nat)
  | slc (b o o' j len : Nat) (c : Option Nat)
  | mp (b : Nat)
  | agg (l : List AV)
  | tup (l : List AV)
  | ifc (t : TypeId) (v : AV)
  | fn (f : Fn) (xs ys : List AV)
  | yld (b : Nat)
  | mrk (l : List AV)
abbrev Tm := Tr AV
/-- what a slot holds -/
def tget (T : Tm) (t : Nat) : AV := match Tr.get 9 T t with
  | some v => v
  | none => .lit undef
/-- what a slice's room stands for -/
def capOf (ρ : Env) (b j : Nat) : Option Nat → Nat
  | some n => n
  | none => (ρ b).room - j
mutual
def AV.conc (ρ : Env) : AV → Value
  | .lit v => v
  | .ptr b o => .pointer (some ⟨(ρ b).blk, (ρ b).base + o, none⟩)
  | .slc b o o' j len c => .slice (some ⟨(ρ b).blk, (ρ b).base + (if (ρ b).room = j then o else o'), none⟩) len (capOf ρ b j c)
  | .mp b => .map (some (ρ b).blk)
  | .agg l => .agg ⟨AV.concs ρ l⟩
  | .tup l => .tuple ⟨AV.concs ρ l⟩
  | .ifc t v => .iface t (AV.conc ρ v)
  | .fn f xs ys => .func f ⟨AV.concs ρ xs⟩ ⟨AV.concs ρ ys⟩
  | .yld b => .func (.yield (ρ b).blk) #[] #[]
  | .mrk _ => .tuple #[]
def AV.concs (ρ : Env) : List AV → List Value
  | [] => []
  | v :: l => AV.conc ρ v :: AV.concs ρ l
end
mutual
def AV.wf (ρ : Env) (n : Nat) : AV → Prop
  | .lit _ => True
  | .ptr b _ => b < n
  | .slc b _ _ j len c => b < n ∧ (c = none → j + len ≤ (ρ b).room) ∧ (∀ k, c = some k → len ≤ k)
  | .mp b => b < n
  | .agg l => AV.wfs ρ n l
  | .tup l => AV.wfs ρ n l
  | .ifc _ v => AV.wf ρ n v
  | .fn _ xs ys => AV.wfs ρ n xs ∧ AV.wfs ρ n ys
  | .yld b => b < n
  | .mrk l => AV.wfs ρ n l
def AV.wfs (ρ : Env) (n : Nat) : List AV → Prop
  | [] => True
  | v :: l => AV.wf ρ n v ∧ AV.wfs ρ n l
end
theorem concs_map (ρ : Env) : ∀ l : List AV, AV.concs ρ l = l.map (AV.conc ρ)
  | [] => rfl
  | v :: l => by simp [AV.concs, concs_map ρ l]
theorem wfs_iff (ρ : Env) (n : Nat) : ∀ l : List AV, AV.wfs ρ n l ↔ ∀ v ∈ l, AV.wf ρ n v
  | [] => by simp [AV.wfs]
  | v :: l => by simp [AV.wfs, wfs_iff ρ n l]
theorem capOf_ext {ρ ρ' : Env} {b j : Nat} {c : Option Nat} (h : ρ' b = ρ b) : capOf ρ' b j c = capOf ρ b j c := by cases c <;> simp only [capOf, h]
mutual
theorem conc_ext {n : Nat} {ρ ρ' : Env} (h : ∀ b, b < n → ρ' b = ρ b) : ∀ v : AV, v.wf ρ n → v.conc ρ' = v.conc ρ
  | .lit _, _ => rfl
  | .ptr b _, hw => by simp only [AV.wf] at hw; simp only [AV.conc, h b hw]
  | .slc b _ _ _ _ _, hw => by simp only [AV.wf] at hw; simp only [AV.conc, capOf_ext (h b hw.1), h b hw.1]
  | .mp b, hw => by simp only [AV.wf] at hw; simp only [AV.conc, h b hw]
  | .agg l, hw => by simp only [AV.wf] at hw; simp only [AV.conc, concs_ext h l hw]
  | .tup l, hw => by simp only [AV.wf] at hw; simp only [AV.conc, concs_ext h l hw]
  | .ifc _ v, hw => by simp only [AV.wf] at hw; simp only [AV.conc, conc_ext h v hw]
  | .fn _ xs ys, hw => by simp only [AV.wf] at hw; simp only [AV.conc, concs_ext h xs hw.1, concs_ext h ys hw.2]
  | .yld b, hw => by simp only [AV.wf] at hw; simp only [AV.conc, h b hw]
  | .mrk _, _ => rfl
theorem concs_ext {n : Nat} {ρ ρ' : Env} (h : ∀ b, b < n → ρ' b = ρ b) : ∀ l : List AV, AV.wfs ρ n l → AV.concs ρ' l = AV.concs ρ l
  | [], _ => rfl
  | v :: l, hw => by simp only [AV.wfs] at hw; simp only [AV.concs, conc_ext h v hw.1, concs_ext h l hw.2]
end
mutual
theorem wf_ext {n m : Nat} {ρ ρ' : Env} (h : ∀ b, b < n → ρ' b = ρ b) (hm : n ≤ m) : ∀ v : AV, v.wf ρ n → v.wf ρ' m
  | .lit _, _ => by simp only [AV.wf]
  | .ptr b _, hw => by simp only [AV.wf] at *; omega
  | .slc b _ _ _ _ _, hw => by simp only [AV.wf] at *; rw [h b hw.1]; exact ⟨Nat.lt_of_lt_of_le hw.1 hm, hw.2⟩
  | .mp b, hw => by simp only [AV.wf] at *; omega
  | .agg l, hw => by simp only [AV.wf] at *; exact wfs_ext h hm l hw
  | .tup l, hw => by simp only [AV.wf] at *; exact wfs_ext h hm l hw
  | .ifc _ v, hw => by simp only [AV.wf] at *; exact wf_ext h hm v hw
  | .fn _ xs ys, hw => by simp only [AV.wf] at *; exact ⟨wfs_ext h hm xs hw.1, wfs_ext h hm ys hw.2⟩
  | .yld b, hw => by simp only [AV.wf] at *; omega
  | .mrk l, hw => by simp only [AV.wf] at *; exact wfs_ext h hm l hw
theorem wfs_ext {n m : Nat} {ρ ρ' : Env} (h : ∀ b, b < n → ρ' b = ρ b) (hm : n ≤ m) : ∀ l : List AV, AV.wfs ρ n l → AV.wfs ρ' m l
  | [], _ => by simp only [AV.wfs]
  | v :: l, hw => by simp only [AV.wfs] at *; exact ⟨wf_ext h hm v hw.1, wfs_ext h hm l hw.2⟩
end
/-! ### memory -/
inductive AO where
  | cells (l : List AV) (e : Nat) (x : TypeId × Bool)
  | map (es : List (Value × AV × Nat)) (clock : Nat)
  | loop (busy : Bool) (sz : Nat) (T : Tm) (ps : Array Tmp) (assign body : Code)
  | dfr
abbrev Hp := Tr AO
/-- what a named block stands for -/
def ObjOk (ρ : Env) (w : World) (b : Nat) : AO → Prop
  | .cells l e x => ∃ (c : Array Value) (t : TypeId), w.heap[(ρ b).blk]? = some (.cells c t (0, 0)) ∧ (∀ (i : Nat) (v : AV), l[i]? = some v → c[(ρ b).base + i]? = some (v.conc ρ)) ∧ l.length ≤ (ρ b).room * e ∧ (ρ b).base + (ρ b).room * e ≤ c.size ∧ t = x.1 ∧ (ρ b).base = 0 ∧ (x.2 = true → c.size = l.length)
  | .map es clock => w.heap[(ρ b).blk]? = some (.map ⟨es.map fun x => { key := x.1, val := x.2.1.conc ρ, born := x.2.2 }⟩ clock)
  | .loop busy sz T ps assign body => ∃ (fn : FuncId) (tmps : Array Value) (d : Nat), w.heap[(ρ b).blk]? = some (.loop { state := if busy then .busy else .ready, pending := none, fn, tmps, params := ps, assign, body, defers := d }) ∧ tmps.size = sz ∧ ∀ t, tmps.getD t undef = (tget T t).conc ρ
  | .dfr => w.heap[(ρ b).blk]? = some (.deferred (some []))
def AO.wf (ρ : Env) (n : Nat) : AO → Prop
  | .cells l _ _ => AV.wfs ρ n l
  | .map es _ => ∀ x ∈ es, AV.wf ρ n x.2.1
  | .loop _ _ T _ _ _ => ∀ t, (tget T t).wf ρ n
  | .dfr => True
/-- outside memory all is as it was -/
abbrev SameEnv (w w' : World) : Prop := w'.os = w.os ∧ w'.tape = w.tape ∧ w'.output = w.output
theorem SameEnv.trans {a b c : World} (h : SameEnv a b) (k : SameEnv b c) : SameEnv a c := ⟨k.1.trans h.1, k.2.1.trans h.2.1, k.2.2.trans h.2.2⟩
/-- what is known of the world in which all began: a variable of the library, some number -/
def Here (w0 : World) (out : Nat → Prop) : Prop := out 0 ∧ ∃ m, w0.cell? ⟨0, 0, none⟩ = some (.int .i64 m)
theorem Here.rebase {w0 w : World} {out : Nat → Prop} (h : Here w0 out) (ho : ∀ c, out c → c < w.heap.size ∧ w.heap[c]? = w0.heap[c]?) : Here w (fun c => c < w.heap.size) :=
  ⟨(ho 0 h.1).1, let ⟨m, hm⟩ := h.2; ⟨m, (World.cell?_of_block (a := ⟨0, 0, none⟩) (ho 0 h.1).2).trans hm⟩⟩
structure EnvOk (w0 : World) (out : Nat → Prop) (w : World) : Prop where
  same : SameEnv w0 w
  here : Here w0 out
theorem EnvOk.trans {w0 : World} {out : Nat → Prop} {w w' : World} (h : EnvOk w0 out w) (k : SameEnv w w') : EnvOk w0 out w' := ⟨h.same.trans k, h.here⟩
/-- the whole: names below n, blocks told apart, and what lies outside as it was in w0 -/
structure Mem (w0 : World) (out : Nat → Prop) (G : Nat) (ρ : Env) (h : Nat → Option AO) (n : Nat) (w : World) : Prop where
  obj : ∀ b o, h b = some o → ObjOk ρ w b o ∧ AO.wf ρ n o
  lt : ∀ b o, h b = some o → b < n
  blk : ∀ b o, h b = some o → (ρ b).blk < w.heap.size
  inj : ∀ b b' o o', h b = some o → h b' = some o' → (ρ b).blk = (ρ b').blk → b = b'
  outs : ∀ c, out c → c < w.heap.size ∧ w.heap[c]? = w0.heap[c]?
  apart : ∀ b o, h b = some o → ¬ out (ρ b).blk
  glob : ∀ g, g < G → ρ g = ⟨g, 0, 1⟩
  globs : G ≤ n
  env : EnvOk w0 out w
theorem Mem.rebase {w0 : World} {out : Nat → Prop} {G : Nat} {ρ : Env} {h : Nat → Option AO} {n : Nat} {w : World} (M : Mem w0 out G ρ h n w) : Here w (fun c => c < w.heap.size) := M.env.here.rebase M.outs
end
end Cx
end Go.Proofs.YtboondbognbnnaaGreatDoor

set_option linter.unusedVariables false
set_option linter.unusedSimpArgs false
namespace Go.Proofs.YtboondbognbnnaaGreatDoor
namespace Cx
noncomputable section
/-- what a computation yields that asks nothing of the world -/
def quick {α : Type} (P : Program) : Sem α → Option α
  | .pure a => some a
  | .program k => quick P (k P)
  | _ => none
theorem quick_run {α : Type} {P : Program} : ∀ {s : Sem α} {a : α}, quick P s = some a → ∀ w, s.run P w = .ok a w
  | .pure b, a, h, w => by simp only [quick, Option.some.injEq] at h; subst h; rfl
  | .program k, a, h, w => by simp only [quick] at h; simp only [Sem.run]; exact quick_run h w
  | .load .., a, h, w => by simp [quick] at h
  | .store .., a, h, w => by simp [quick] at h
  | .new .., a, h, w => by simp [quick] at h
  | .shape .., a, h, w => by simp [quick] at h
  | .freeze .., a, h, w => by simp [quick] at h
  | .frozen .., a, h, w => by simp [quick] at h
  | .getObj .., a, h, w => by simp [quick] at h
  | .setObj .., a, h, w => by simp [quick] at h
  | .choose .., a, h, w => by simp [quick] at h
  | .sys .., a, h, w => by simp [quick] at h
  | .mark .., a, h, w => by simp [quick] at h
  | .halt .., a, h, w => by simp [quick] at h
def takeN {α : Type} : Nat → List α → Option (List α)
  | 0, _ => some []
  | _ + 1, [] => none
  | n + 1, x :: l => (takeN n l).map (x :: ·)
theorem takeN_eq {α : Type} : ∀ {n : Nat} {l r : List α}, takeN n l = some r → n ≤ l.length ∧ r = l.take n
  | 0, l, r, h => by simp only [takeN, Option.some.injEq] at h; subst h; simp
  | n + 1, [], r, h => by simp [takeN] at h
  | n + 1, x :: l, r, h => by
    simp only [takeN, Option.map_eq_some_iff] at h
    obtain ⟨r', h', rfl⟩ := h
    obtain ⟨h1, rfl⟩ := takeN_eq h'
    simp; omega
def aSize (P : Program) (t : TypeId) : Option Nat := (P.info? t).map (·.size)
def isAggD : TypeDesc → Bool
  | .struct _ => true
  | .array _ _ => true
  | _ => false
def aAgg (P : Program) (t : TypeId) : Option Bool := (P.underlying t).map isAggD
theorem run_size {P : Program} {t n : Nat} (h : aSize P t = some n) (w : World) : (sizeOf t).run P w = .ok n w := by
  obtain ⟨i, hi, rfl⟩ := Option.map_eq_some_iff.1 h
  simp [sizeOf, typeInfo, hi]
theorem run_agg {P : Program} {t : Nat} {b : Bool} (h : aAgg P t = some b) (w : World) : (isAgg t).run P w = .ok b w := by
  obtain ⟨d, hd, rfl⟩ := Option.map_eq_some_iff.1 h
  cases d <;> simp [isAgg, run_underlying hd, isAggD]
/-- a value's cells -/
def AV.cells : AV → List AV
  | .agg l => l
  | v => [v]
def litAgg : Value → AV
  | .agg cs => .agg (cs.toList.map .lit)
  | v => .lit v
theorem conc_litAgg (ρ : Env) (v : Value) : (litAgg v).conc ρ = v := by
  cases v <;> simp [litAgg, AV.conc, concs_map, Function.comp_def]
theorem wf_litAgg (ρ : Env) (n : Nat) (v : Value) : (litAgg v).wf ρ n := by
  cases v <;> simp [litAgg, AV.wf, wfs_iff]
def litFree : Value → Bool
  | .agg _ => false
  | _ => true
/-- no literal that is an aggregate -/
def AV.plain : AV → Bool
  | .lit (.agg _) => false
  | _ => true
theorem conc_cells (ρ : Env) {v : AV} (h : v.plain = true) : (v.conc ρ).cells = ⟨(v.cells).map (AV.conc ρ)⟩ := by
  cases v with
  | lit v => cases v <;> first | rfl | (simp [AV.plain] at h)
  | agg l => simp [AV.conc, AV.cells, Value.cells, concs_map]
  | _ => rfl
theorem wf_cells {ρ : Env} {n : Nat} {v : AV} (h : v.wf ρ n) : AV.wfs ρ n v.cells := by
  cases v with
  | agg l => exact h
  | _ => simpa [AV.cells, AV.wfs] using h
/-- a part of some cells -/
def xPart (P : Program) (t : TypeId) (l : List AV) (off : Nat) : Option AV :=
  match aAgg P t with
  | some true => match aSize P t with
    | some n => (takeN n (l.drop off)).map .agg
    | none => none
  | some false => l[off]?
  | none => none
theorem xPart_ok {P : Program} {ρ : Env} {n : Nat} {t : TypeId} {l : List AV} {off : Nat} {v : AV} (hl : AV.wfs ρ n l) (h : xPart P t l off = some v) :
    (∀ w, (part t ⟨l.map (AV.conc ρ)⟩ off).run P w = .ok (v.conc ρ) w) ∧ v.wf ρ n := by
  unfold xPart at h
  have hl' := (wfs_iff ρ n l).1 hl
  split at h
  · rename_i ha
    split at h
    · rename_i k hk
      obtain ⟨r, hr, rfl⟩ := Option.map_eq_some_iff.1 h
      obtain ⟨h1, rfl⟩ := takeN_eq hr
      refine ⟨fun w => ?_, (wfs_iff ρ n _).2 fun v hv => hl' v (List.mem_of_mem_drop (List.mem_of_mem_take hv))⟩
      simp only [part, Sem.run_bind, run_agg ha, Result.andThen_ok, if_true, run_size hk, AV.conc, concs_map]
      show Result.ok _ w = _
      congr 2
      apply Array.ext'
      simp [List.take_drop, Nat.add_comm]
    · cases h
  · rename_i ha
    refine ⟨fun w => ?_, hl' v (List.mem_of_getElem? h)⟩
    simp [part, run_agg ha, h]
  · cases h
/-! ### literals, nil -/
def isNil : Value → Bool
  | .pointer none | .slice none _ _ | .map none | .nilFunc | .nilIface => true
  | _ => false
def nilEq (P : Program) (t : TypeId) : AV → Value → Option Bool
  | .ptr _ _, .pointer none => match P.underlying t with
    | some (.pointer _) => some false
    | _ => none
  | .slc .., .slice none _ _ => match P.underlying t with
    | some (.slice _) => some false
    | _ => none
  | .mp _, .map none => match P.underlying t with
    | some (.map _ _) => some false
    | _ => none
  | .fn .., .nilFunc => match P.underlying t with
    | some (.func ..) => some false
    | _ => none
  | .ifc .., .nilIface => match P.underlying t with
    | some (.interface _) => some false
    | _ => none
  | _, _ => none
theorem nilEq_ok {P : Program} {ρ : Env} {t : TypeId} {x : AV} {y : Value} {b : Bool} (h : nilEq P t x y = some b) (w : World) :
    (Op.equal t (x.conc ρ) y).run P w = .ok b w ∧ (Op.equal t y (x.conc ρ)).run P w = .ok b w := by
  unfold nilEq at h
  split at h <;> (try cases h) <;>
    (split at h <;> (try cases h)) <;> rename_i hu <;>
    (have e : ∀ x y, Op.equal t x y = Op.equalIn (9999 + 1) t x y := fun _ _ => rfl
     simp only [e]
     generalize 9999 = d
     simp [Op.equalIn, run_underlying hu, AV.conc])
def nil2 (P : Program) (t : TypeId) : AV → AV → Option Bool
  | x, .lit v => nilEq P t x v
  | .lit v, x => nilEq P t x v
  | _, _ => none
theorem nil2_ok {P : Program} {ρ : Env} {t : TypeId} {x y : AV} {b : Bool} (h : nil2 P t x y = some b) (w : World) :
    (Op.equal t (x.conc ρ) (y.conc ρ)).run P w = .ok b w := by
  unfold nil2 at h
  split at h
  · exact (nilEq_ok h w).1
  · exact (nilEq_ok h w).2
  · cases h
def xBin (P : Program) (op : BinOp) (t : TypeId) (xo yo : Operand) (x y : AV) : Option AV :=
  match x, y with
  | .lit u, .lit v => (quick P (do eqGuard op t xo yo u v; binOp op t u v)).map litAgg
  | x, y => match op with
    | .eql => (nil2 P t x y).map fun b => .lit (.bool b)
    | .neq => (nil2 P t x y).map fun b => .lit (.bool (!b))
    | _ => none
def xUn (P : Program) (op : UnOp) : AV → Option AV
  | .lit u => (quick P (Op.unary op u)).map litAgg
  | _ => none
def xConv (P : Program) (src dst : TypeId) : AV → Option AV
  | .lit u => (quick P (convert src dst u)).map litAgg
  | _ => none
def xNil : AV → Option AV
  | .lit v => match v with
    | .pointer none | .nilIface | .nilFunc => none
    | .func (.func f) xs ys => some (.lit (.func (.func f) xs ys))
    | .func .. => none
    | v => some (.lit v)
  | .fn (.func f) xs ys => some (.fn (.func f) xs ys)
  | .fn .. => none
  | v => some v
theorem xNil_ok {P : Program} {ρ : Env} {n : Nat} {x v : AV} (hx : x.wf ρ n) (h : xNil x = some v) {o : Oper} {a : Act} {xo : Operand} (ho : o.op = .nilCheck xo) (ha : a.eval xo = x.conc ρ) (w : World) :
    (execOp a.eval o).run P w = .ok (.value (v.conc ρ)) w ∧ v.wf ρ n := by
  simp only [execOp, ho, ha]
  cases x with
  | lit u =>
    cases u with
    | pointer p => cases p <;> simp [xNil] at h; subst h; exact ⟨by simp [AV.conc], hx⟩
    | func f xs ys => cases f <;> simp [xNil] at h; subst h; exact ⟨by simp [AV.conc], hx⟩
    | nilIface => simp [xNil] at h
    | nilFunc => simp [xNil] at h
    | _ => simp [xNil] at h; subst h; exact ⟨by simp [AV.conc], hx⟩
  | fn f xs ys => cases f <;> simp [xNil] at h; subst h; exact ⟨by simp [AV.conc], hx⟩
  | _ => simp [xNil] at h; subst h; exact ⟨by simp [AV.conc], hx⟩
def structOf (P : Program) (t : TypeId) (f : Nat) : Option Field :=
  match P.underlying t with
  | some (.struct fs) => fs[f]?
  | _ => none
def xFieldAddr (P : Program) (s : TypeId) (x : AV) (f : Nat) : Option AV :=
  match structOf P s f with
  | none => none
  | some fl => match x, aSize P fl.type with
    | .ptr b o, some (_ + 1) => some (.ptr b (o + fl.offset))
    | _, _ => none
theorem add_off (b o k : Nat) : (⟨b, o, none⟩ : Addr).add k = ⟨b, o + k, none⟩ := by unfold Addr.add; split <;> simp_all
theorem xFieldAddr_ok {P : Program} {ρ : Env} {n : Nat} {s : TypeId} {x v : AV} {f : Nat} (hx : x.wf ρ n) (h : xFieldAddr P s x f = some v) (w : World) :
    (Instr.fieldAt s (x.conc ρ) f).run P w = .ok (v.conc ρ) w ∧ v.wf ρ n := by
  unfold xFieldAddr structOf at h
  split at h
  · cases h
  · rename_i fl hfl
    split at hfl
    · rename_i fs hs
      split at h
      · rename_i b o k hk
        cases h
        refine ⟨?_, hx⟩
        simp [Instr.fieldAt, run_underlying hs, hfl, AV.conc, Instr.sureAddr, fieldPlace, run_size hk, add_off, Nat.add_assoc]
      · cases h
    · cases hfl
def xField (P : Program) (s : TypeId) (x : AV) (f : Nat) : Option AV :=
  match structOf P s f with
  | none => none
  | some fl => match x with
    | .agg l => xPart P fl.type l fl.offset
    | _ => none
theorem xField_ok {P : Program} {ρ : Env} {n : Nat} {s : TypeId} {x v : AV} {f : Nat} (hx : x.wf ρ n) (h : xField P s x f = some v) (w : World) :
    (Instr.field s (x.conc ρ) f).run P w = .ok (v.conc ρ) w ∧ v.wf ρ n := by
  unfold xField structOf at h
  split at h
  · cases h
  · rename_i fl hfl
    split at hfl
    · rename_i fs hs
      split at h
      · rename_i l
        obtain ⟨h1, h2⟩ := xPart_ok (ρ := ρ) (n := n) hx h
        refine ⟨?_, h2⟩
        simp [Instr.field, run_underlying hs, hfl, AV.conc, asAgg, concs_map, h1]
      · cases h
    · cases hfl
/-- an index that is in range -/
def inRange (i : AV) (n : Nat) : Option Nat :=
  match i with
  | .lit (.int _ k) => match k with
    | .ofNat k => bif Nat.blt k n then some k else none
    | .negSucc _ => none
  | _ => none
theorem inRange_eq {i : AV} {n k : Nat} (h : inRange i n = some k) : ∃ kd, i = .lit (.int kd (k : Int)) ∧ k < n := by
  unfold inRange at h
  split at h
  · rename_i kd k'
    split at h
    · rename_i k0
      by_cases hb : Nat.blt k0 n = true
      · rw [hb] at h
        cases h
        exact ⟨kd, rfl, by simpa [Nat.blt_eq] using hb⟩
      · rw [Bool.eq_false_iff.2 hb] at h; cases h
    · cases h
  · cases h
def xIndexAddr (P : Program) (t : TypeId) (x i : AV) : Option AV :=
  match P.underlying t, x with
  | some (.slice e), .slc b o o' _ len _ => match inRange i len, aSize P e with
    | some k, some s => bif o.beq o' then some (.ptr b (o + k * s)) else none
    | _, _ => none
  | some (.array len e), .ptr b o => match inRange i len, aSize P e with
    | some k, some s => some (.ptr b (o + k * s))
    | _, _ => none
  | _, _ => none
theorem xIndexAddr_ok {P : Program} {ρ : Env} {n : Nat} {t : TypeId} {x i v : AV} (hx : x.wf ρ n) (h : xIndexAddr P t x i = some v) (w : World) :
    (Instr.indexAt t (x.conc ρ) (i.conc ρ)).run P w = .ok (v.conc ρ) w ∧ v.wf ρ n := by
  unfold xIndexAddr at h
  split at h
  · rename_i e b o o' j len c hu
    split at h
    · rename_i k s hk hs
      obtain ⟨kd, rfl, hlt⟩ := inRange_eq hk
      by_cases ho : o.beq o' = true
      · have ho' := Nat.eq_of_beq_eq_true ho
        subst ho'
        rw [ho] at h
        cases h
        refine ⟨?_, hx.1⟩
        simp [Instr.indexAt, run_underlying hu, AV.conc, asIntOf, hlt, run_size hs, add_off, Nat.add_assoc]
      · rw [Bool.eq_false_iff.2 ho] at h; cases h
    · cases h
  · rename_i len e b o hu
    split at h
    · rename_i k s hk hs
      obtain ⟨kd, rfl, hlt⟩ := inRange_eq hk
      cases h
      refine ⟨?_, hx⟩
      simp [Instr.indexAt, run_underlying hu, AV.conc, asIntOf, Instr.sureAddr, hlt, run_size hs, add_off, Nat.add_assoc]
    · cases h
  · cases h
def xIndex (P : Program) (t : TypeId) (x i : AV) : Option AV :=
  match x, i with
  | .lit u, .lit v => (quick P (Instr.index t u v)).map litAgg
  | .agg l, i => match P.underlying t with
    | some (.array len e) => match inRange i len, aSize P e with
      | some k, some s => xPart P e l (k * s)
      | _, _ => none
    | _ => none
  | _, _ => none
theorem xIndex_ok {P : Program} {ρ : Env} {n : Nat} {t : TypeId} {x i v : AV} (hx : x.wf ρ n) (h : xIndex P t x i = some v) (w : World) :
    (Instr.index t (x.conc ρ) (i.conc ρ)).run P w = .ok (v.conc ρ) w ∧ v.wf ρ n := by
  unfold xIndex at h
  split at h
  · obtain ⟨u, hu, rfl⟩ := Option.map_eq_some_iff.1 h
    rw [conc_litAgg]
    exact ⟨quick_run hu w, wf_litAgg _ _ _⟩
  · split at h
    · rename_i len e hu
      split at h
      · rename_i k s hk hs
        obtain ⟨kd, rfl, hlt⟩ := inRange_eq hk
        obtain ⟨h1, h2⟩ := xPart_ok (ρ := ρ) (n := n) hx h
        refine ⟨?_, h2⟩
        simp [Instr.index, run_underlying hu, AV.conc, asIntOf, hlt, run_size hs, concs_map, h1]
      · cases h
    · cases h
  · cases h
def xExtract : AV → Nat → Option AV
  | .tup l, i => l[i]?
  | _, _ => none
theorem xExtract_ok {P : Program} {ρ : Env} {n : Nat} {x v : AV} {i : Nat} (hx : x.wf ρ n) (h : xExtract x i = some v) (w : World) :
    (Instr.extract (x.conc ρ) i).run P w = .ok (v.conc ρ) w ∧ v.wf ρ n := by
  unfold xExtract at h
  split at h
  · rename_i l
    refine ⟨?_, (wfs_iff ρ n l).1 hx v (List.mem_of_getElem? h)⟩
    simp [Instr.extract, AV.conc, concs_map, h]
  · cases h
end
end Cx
end Go.Proofs.YtboondbognbnnaaGreatDoor

set_option linter.unusedVariables false
set_option linter.unusedSimpArgs false
namespace Go.Proofs.YtboondbognbnnaaGreatDoor
namespace Cx
noncomputable section
def optNat : Option AV → Option (Option Nat)
  | none => some none
  | some v => match v with
    | .lit (.int _ (.ofNat k)) => some (some k)
    | _ => none
def IsIdx (v : Option Value) : Option Nat → Prop
  | none => v = none
  | some k => ∃ kd, v = some (.int kd (k : Int))
theorem optNat_eq {ρ : Env} {x : Option AV} {r : Option Nat} (h : optNat x = some r) : IsIdx (x.map (AV.conc ρ)) r := by
  unfold optNat at h
  split at h
  · cases h; rfl
  · split at h
    · rename_i kd k
      cases h
      exact ⟨kd, by simp [AV.conc, capOf]⟩
    · cases h
theorem bound_run {P : Program} {kd : IntKind} {k y : Nat} {code : BoundsCode} (h : k ≤ y) (w : World) : (Instr.sliceBound (.int kd (k : Int)) y code).run P w = .ok k w := by
  simp [Instr.sliceBound, asIntOf, h]
theorem bounds_run {P : Program} {isS : Bool} {len cap : Nat} {lo hi mx : Option Value} {l h m : Option Nat} (hl : IsIdx lo l) (hh : IsIdx hi h) (hm : IsIdx mx m)
    (h1 : ∀ m', m = some m' → m' ≤ cap ∧ h.isSome = true) (h2 : h.getD len ≤ m.getD cap) (h3 : l.getD 0 ≤ h.getD len) (w : World) :
    (Instr.sliceBounds isS len cap lo hi mx).run P w = .ok (l.getD 0, h.getD len, m.getD cap) w := by
  have e1 : ∀ (code : BoundsCode), (match l with | none => lo = none | some k => ∃ kd, lo = some (.int kd (k : Int))) := fun _ => by cases l <;> exact hl
  cases m with
  | none =>
    simp only [IsIdx] at hm
    subst hm
    cases h with
    | none =>
      simp only [IsIdx] at hh
      subst hh
      cases l with
      | none => simp only [IsIdx] at hl; subst hl; simp [Instr.sliceBounds]
      | some l => obtain ⟨kd, rfl⟩ := hl; simp at h3; simp [Instr.sliceBounds, bound_run h3]
    | some h =>
      obtain ⟨kd, rfl⟩ := hh
      simp at h2 h3
      cases l with
      | none => simp only [IsIdx] at hl; subst hl; simp [Instr.sliceBounds, bound_run h2]
      | some l => obtain ⟨kd', rfl⟩ := hl; simp at h3; simp [Instr.sliceBounds, bound_run h2, bound_run h3]
  | some m =>
    obtain ⟨km, rfl⟩ := hm
    obtain ⟨g1, g2⟩ := h1 m rfl
    cases h with
    | none => simp at g2
    | some h =>
      obtain ⟨kd, rfl⟩ := hh
      simp at h2 h3
      cases l with
      | none => simp only [IsIdx] at hl; subst hl; simp [Instr.sliceBounds, bound_run g1, bound_run h2]
      | some l => obtain ⟨kd', rfl⟩ := hl; simp at h3; simp [Instr.sliceBounds, bound_run g1, bound_run h2, bound_run h3]
def lowCap (len : Nat) : Option Nat → Nat
  | some k => k
  | none => len
/-- behind the bounds: from l to h, the room known (m) or up to the block's end -/
def xCut (b o o' j len s l h : Nat) : Option Nat → Option AV
  | some m => bif m.beq l then some (.slc b o o' j (h - l) (some 0)) else bif o.beq o' then some (.slc b (o + l * s) (o + l * s) j (h - l) (some (m - l))) else none
  | none => bif l.beq 0 then some (.slc b o o' j h none) else bif o.beq o' then (bif Nat.blt l len then some (.slc b (o + l * s) (o + l * s) (j + l) (h - l) none) else some (.slc b o (o + l * s) (j + l) (h - l) none)) else none
def hiOk (m h : Option Nat) : Bool :=
  match m with
  | some _ => h.isSome
  | none => true
def xSlc (b o o' j len : Nat) (c : Option Nat) (s : Nat) (lo hi mx : Option Nat) : Option AV :=
  bif hiOk mx hi && Nat.ble (mx.getD (lowCap len c)) (lowCap len c) && Nat.ble (hi.getD len) (mx.getD (lowCap len c)) && Nat.ble (lo.getD 0) (hi.getD len) then
    xCut b o o' j len s (lo.getD 0) (hi.getD len) (match mx with | some m => some m | none => c)
  else none
theorem xSlc_ok {P : Program} {ρ : Env} {n : Nat} {isS : Bool} {b o o' j len : Nat} {c : Option Nat} {s : Nat} {lo hi mx : Option Nat} {v : AV} {vl vh vm : Option Value}
    (hx : AV.wf ρ n (.slc b o o' j len c)) (hl : IsIdx vl lo) (hh : IsIdx vh hi) (hm : IsIdx vm mx) (h : xSlc b o o' j len c s lo hi mx = some v) (w : World) :
    ∃ l h' m, (Instr.sliceBounds isS len (capOf ρ b j c) vl vh vm).run P w = .ok (l, h', m) w ∧
      v.conc ρ = .slice (some (if m = l then ⟨(ρ b).blk, (ρ b).base + (if (ρ b).room = j then o else o'), none⟩ else ⟨(ρ b).blk, (ρ b).base + (if (ρ b).room = j then o else o') + l * s, none⟩)) (h' - l) (m - l) ∧ v.wf ρ n := by
  unfold xSlc at h
  simp only [AV.wf] at hx
  obtain ⟨hb, hc1, hc2⟩ := hx
  cases hcond : (hiOk mx hi && Nat.ble (mx.getD (lowCap len c)) (lowCap len c) && Nat.ble (hi.getD len) (mx.getD (lowCap len c)) && Nat.ble (lo.getD 0) (hi.getD len)) with
  | false => rw [hcond] at h; cases h
  | true =>
    rw [hcond] at h
    simp only [Bool.and_eq_true, Nat.ble_eq] at hcond
    obtain ⟨⟨⟨k0, k1⟩, k2⟩, k3⟩ := hcond
    simp only [cond_true] at h
    have hlc : lowCap len c ≤ capOf ρ b j c := by
      cases c with
      | none => have := hc1 rfl; simp only [lowCap, capOf]; omega
      | some k => simp [lowCap, capOf]
    refine ⟨lo.getD 0, hi.getD len, mx.getD (capOf ρ b j c), bounds_run hl hh hm (fun m' e => ?_) ?_ k3 w, ?_⟩
    · subst e; simp only [hiOk, Option.getD_some] at k0 k1; exact ⟨by omega, k0⟩
    · cases mx with
      | none => simp only [Option.getD_none] at k2 ⊢; omega
      | some m => exact k2
    · generalize lo.getD 0 = l at *
      generalize hi.getD len = h' at *
      have known : ∀ m, (match mx with | some m => some m | none => c) = some m → mx.getD (capOf ρ b j c) = m ∧ h' ≤ m := by
        intro m e
        cases mx with
        | none => simp only at e; subst e; exact ⟨rfl, k2⟩
        | some m' => simp only [Option.some.injEq] at e; subst e; exact ⟨rfl, k2⟩
      cases hmm : (match mx with | some m => some m | none => c) with
      | some m =>
        obtain ⟨e1, e2⟩ := known m hmm
        rw [hmm] at h
        rw [e1]
        simp only [xCut] at h
        by_cases hml : m.beq l = true
        · rw [hml] at h
          have hml := Nat.eq_of_beq_eq_true hml
          subst hml
          cases h
          refine ⟨by simp [AV.conc, capOf], by simp only [AV.wf]; exact ⟨hb, fun e => (by cases e), fun k e => (by cases e; omega)⟩⟩
        · rw [Bool.eq_false_iff.2 hml] at h
          have hml : ¬ m = l := fun e => hml (by rw [e]; exact Nat.beq_refl l)
          by_cases ho : o.beq o' = true
          · rw [ho] at h
            have ho := Nat.eq_of_beq_eq_true ho
            subst ho
            cases h
            refine ⟨by simp [AV.conc, capOf, hml, Nat.add_assoc], by simp only [AV.wf]; exact ⟨hb, fun e => (by cases e), fun k e => (by cases e; omega)⟩⟩
          · rw [Bool.eq_false_iff.2 ho] at h; cases h
      | none =>
        have hmx : mx = none := by cases mx with
          | none => rfl
          | some m => simp at hmm
        subst hmx
        simp only at hmm
        subst hmm
        rw [show (match (none : Option Nat) with | some m => some m | none => (none : Option Nat)) = none from rfl] at h
        simp only [Option.getD_none, lowCap] at k1 k2
        have hj := hc1 rfl
        simp only [Option.getD_none, capOf]
        simp only [xCut] at h
        by_cases hl0 : l.beq 0 = true
        · rw [hl0] at h
          have hl0 := Nat.eq_of_beq_eq_true hl0
          subst hl0
          cases h
          refine ⟨by simp [AV.conc, capOf], by simp only [AV.wf]; exact ⟨hb, fun _ => by omega, fun k e => (by cases e)⟩⟩
        · rw [Bool.eq_false_iff.2 hl0] at h
          have hl0 : ¬ l = 0 := fun e => hl0 (by rw [e]; rfl)
          by_cases ho : o.beq o' = true
          · rw [ho] at h
            have ho := Nat.eq_of_beq_eq_true ho
            subst ho
            by_cases hlt : Nat.blt l len = true
            · rw [hlt] at h
              have hlt : l < len := by simpa [Nat.blt_eq] using hlt
              cases h
              have e1 : ¬ (ρ b).room - j = l := by omega
              refine ⟨?_, by simp only [AV.wf]; exact ⟨hb, fun _ => by omega, fun k e => (by cases e)⟩⟩
              simp only [AV.conc, capOf, e1, if_false, ite_self, Nat.add_assoc, Nat.sub_sub]
            · rw [Bool.eq_false_iff.2 hlt] at h
              have hlt : ¬ l < len := by simpa [Nat.blt_eq] using hlt
              cases h
              refine ⟨?_, by simp only [AV.wf]; exact ⟨hb, fun _ => by omega, fun k e => (by cases e)⟩⟩
              simp only [AV.conc, capOf, ite_self, Nat.sub_sub]
              by_cases e : (ρ b).room = j + l
              · have e1 : (ρ b).room - j = l := by omega
                rw [if_pos e, if_pos e1]
              · have e1 : ¬ (ρ b).room - j = l := by omega
                rw [if_neg e, if_neg e1, Nat.add_assoc]
          · rw [Bool.eq_false_iff.2 ho] at h; cases h
def litOpt : Option AV → Option (Option Value)
  | none => some none
  | some (.lit v) => some (some v)
  | _ => none
theorem litOpt_eq {ρ : Env} {x : Option AV} {r : Option Value} (h : litOpt x = some r) : x.map (AV.conc ρ) = r := by
  unfold litOpt at h
  split at h <;> cases h <;> simp [AV.conc, capOf]
def xSliceAt (P : Program) (t : TypeId) (x : AV) (lo hi mx : Option AV) : Option AV :=
  match x with
  | .slc b o o' j len c => match optNat lo, optNat hi, optNat mx, P.underlying t with
    | some l, some h, some m, some (.slice e) => match aSize P e with
      | some s => xSlc b o o' j len c s l h m
      | none => none
    | _, _, _, _ => none
  | .ptr b o => match optNat lo, optNat hi, optNat mx, P.underlying t with
    | some l, some h, some m, some (.array n e) => match aSize P e with
      | some s => xSlc b o o 0 n (some n) s l h m
      | none => none
    | _, _, _, _ => none
  | .lit u => match litOpt lo, litOpt hi, litOpt mx with
    | some l, some h, some m => (quick P (Instr.sliceAt t u l h m)).map litAgg
    | _, _, _ => none
  | _ => none
theorem xSliceAt_ok {P : Program} {ρ : Env} {n : Nat} {t : TypeId} {x v : AV} {lo hi mx : Option AV} (hx : x.wf ρ n) (h : xSliceAt P t x lo hi mx = some v) (w : World) :
    (Instr.sliceAt t (x.conc ρ) (lo.map (AV.conc ρ)) (hi.map (AV.conc ρ)) (mx.map (AV.conc ρ))).run P w = .ok (v.conc ρ) w ∧ v.wf ρ n := by
  unfold xSliceAt at h
  split at h
  · rename_i b o o' j len c
    split at h
    · rename_i l h' m e hl hh hm hu
      split at h
      · rename_i s hs
        obtain ⟨l', h'', m', hb, hv, hw⟩ := xSlc_ok (P := P) (isS := true) hx (optNat_eq (ρ := ρ) hl) (optNat_eq (ρ := ρ) hh) (optNat_eq (ρ := ρ) hm) h w
        refine ⟨?_, hw⟩
        rw [hv]
        simp only [Instr.sliceAt, Sem.run_bind, run_underlying hu, Result.andThen_ok, Instr.slice, AV.conc, hb, run_size hs]
        by_cases e : m' = l'
        · simp [e]
        · simp [e, add_off]
      · cases h
    · cases h
  · rename_i b o
    split at h
    · rename_i l h' m k e hl hh hm hu
      split at h
      · rename_i s hs
        have hx' : AV.wf ρ n (.slc b o o 0 k (some k)) := by simp only [AV.wf]; exact ⟨hx, fun e => by (cases e), fun q e => by (cases e; omega)⟩
        obtain ⟨l', h'', m', hb, hv, hw⟩ := xSlc_ok (P := P) (isS := false) hx' (optNat_eq (ρ := ρ) hl) (optNat_eq (ρ := ρ) hh) (optNat_eq (ρ := ρ) hm) h w
        refine ⟨?_, hw⟩
        rw [hv]
        simp only [capOf] at hb
        simp only [Instr.sliceAt, Sem.run_bind, run_underlying hu, Result.andThen_ok, Instr.sureAddr, AV.conc, hb, run_size hs]
        by_cases e : m' = l'
        · simp [e, hb, run_size hs]
        · simp [e, hb, run_size hs, add_off]
      · cases h
    · cases h
  · rename_i u
    split at h
    · rename_i l h' m hl hh hm
      obtain ⟨u', hu, rfl⟩ := Option.map_eq_some_iff.1 h
      rw [conc_litAgg, litOpt_eq hl, litOpt_eq hh, litOpt_eq hm]
      exact ⟨quick_run hu w, wf_litAgg _ _ _⟩
    · cases h
  · cases h
/-! ### aggregates -/
def aZero (P : Program) (t : TypeId) : Option AV := match P.info? t with
  | some i => i.zero.map litAgg
  | none => none
theorem run_zero {P : Program} {ρ : Env} {t : TypeId} {v : AV} (h : aZero P t = some v) (w : World) : (zeroValue t).run P w = .ok (v.conc ρ) w := by
  unfold aZero at h
  split at h
  · rename_i i hi
    obtain ⟨z, hz, rfl⟩ := Option.map_eq_some_iff.1 h
    simp [zeroValue, typeInfo, hi, hz, conc_litAgg]
  · cases h
theorem plain_litAgg (v : Value) : (litAgg v).plain = true := by cases v <;> rfl
theorem zero_plain {P : Program} {t : TypeId} {v : AV} (h : aZero P t = some v) : v.plain = true ∧ ∀ ρ n, v.wf ρ n := by
  unfold aZero at h
  split at h
  · obtain ⟨z, hz, rfl⟩ := Option.map_eq_some_iff.1 h
    exact ⟨plain_litAgg z, fun ρ n => wf_litAgg ρ n z⟩
  · cases h
/-- some cells put in the place of others -/
def splice (l : List AV) (o : Nat) (vs : List AV) : Option (List AV) :=
  bif Nat.ble (o + vs.length) l.length then some (l.take o ++ (vs ++ l.drop (o + vs.length))) else none
theorem splice_eq {l vs r : List AV} {o : Nat} (h : splice l o vs = some r) : o + vs.length ≤ l.length ∧ r = l.take o ++ (vs ++ l.drop (o + vs.length)) := by
  unfold splice at h
  by_cases hb : Nat.ble (o + vs.length) l.length = true
  · rw [hb] at h; cases h; exact ⟨by simpa using hb, rfl⟩
  · rw [Bool.eq_false_iff.2 hb] at h; cases h
theorem splice_get {l vs r : List AV} {o : Nat} (h : splice l o vs = some r) (i : Nat) : r[i]? = if o ≤ i ∧ i < o + vs.length then vs[i - o]? else l[i]? := by
  obtain ⟨hle, rfl⟩ := splice_eq h
  by_cases h1 : i < o
  · rw [List.getElem?_append_left (by simp; omega), if_neg (by omega), List.getElem?_take, if_pos h1]
  · rw [List.getElem?_append_right (by simp; omega)]
    have e : i - (l.take o).length = i - o := by simp; omega
    rw [e]
    by_cases h2 : i < o + vs.length
    · rw [List.getElem?_append_left (by omega), if_pos ⟨by omega, h2⟩]
    · rw [List.getElem?_append_right (by omega), if_neg (by omega), List.getElem?_drop]
      congr 1
      omega
theorem splice_wf {ρ : Env} {n : Nat} {l vs r : List AV} {o : Nat} (h : splice l o vs = some r) (hl : AV.wfs ρ n l) (hv : AV.wfs ρ n vs) : AV.wfs ρ n r ∧ r.length = l.length := by
  obtain ⟨hle, rfl⟩ := splice_eq h
  have h1 := (wfs_iff ρ n l).1 hl
  have h2 := (wfs_iff ρ n vs).1 hv
  refine ⟨(wfs_iff ρ n _).2 fun v hv => ?_, by simp; omega⟩
  rcases List.mem_append.1 hv with hv | hv
  · exact h1 v (List.mem_of_mem_take hv)
  · rcases List.mem_append.1 hv with hv | hv
    · exact h2 v hv
    · exact h1 v (List.mem_of_mem_drop hv)
theorem foldl_set (vs : List Value) : ∀ (k off : Nat) (c : Array Value), ((vs.zipIdx k).foldl (fun cs (x : Value × Nat) => cs.setIfInBounds (off + x.2) x.1) c).size = c.size ∧
    ∀ i, ((vs.zipIdx k).foldl (fun cs (x : Value × Nat) => cs.setIfInBounds (off + x.2) x.1) c)[i]? = if off + k ≤ i ∧ i < off + k + vs.length ∧ i < c.size then vs[i - (off + k)]? else c[i]? := by
  induction vs with
  | nil => intro k off c; refine ⟨rfl, fun i => ?_⟩; rw [if_neg (by simp; omega)]; rfl
  | cons v vs ih =>
    intro k off c
    simp only [List.zipIdx_cons, List.foldl_cons]
    obtain ⟨h1, h2⟩ := ih (k + 1) off (c.setIfInBounds (off + k) v)
    refine ⟨by rw [h1]; simp, fun i => ?_⟩
    rw [h2]
    simp only [Array.size_setIfInBounds, List.length_cons, Array.getElem?_setIfInBounds]
    by_cases e : i = off + k
    · subst e
      rw [if_neg (by omega), if_pos rfl]
      by_cases hc : off + k < c.size
      · rw [if_pos hc, if_pos ⟨by omega, by omega, hc⟩]; simp
      · rw [if_neg hc, if_neg (by omega), Array.getElem?_eq_none (by omega)]
    · rw [if_neg (show ¬ off + k = i from fun h => e h.symm)]
      by_cases hr : off + (k + 1) ≤ i ∧ i < off + (k + 1) + vs.length ∧ i < c.size
      · rw [if_pos hr, if_pos (by omega)]
        rw [show i - (off + k) = (i - (off + (k + 1))) + 1 from by omega, List.getElem?_cons_succ]
      · rw [if_neg hr, if_neg (by omega)]
def putAt (o : Nat) (c : Array Value) (vs : Array Value) : Array Value := vs.zipIdx.foldl (fun cs (c, j) => cs.setIfInBounds (o + j) c) c
theorem splice_array {ρ : Env} {l vs r : List AV} {o : Nat} (h : splice l o vs = some r) : putAt o ⟨l.map (AV.conc ρ)⟩ ⟨vs.map (AV.conc ρ)⟩ = ⟨r.map (AV.conc ρ)⟩ := by
  obtain ⟨hle, _⟩ := splice_eq h
  have hf := foldl_set (vs.map (AV.conc ρ)) 0 o ⟨l.map (AV.conc ρ)⟩
  have e : putAt o ⟨l.map (AV.conc ρ)⟩ ⟨vs.map (AV.conc ρ)⟩ = (((vs.map (AV.conc ρ)).zipIdx 0).foldl (fun (cs : Array Value) (x : Value × Nat) => cs.setIfInBounds (o + x.2) x.1) (⟨l.map (AV.conc ρ)⟩ : Array Value)) := by
    unfold putAt
    rw [← Array.foldl_toList]; simp
  rw [e]
  apply Array.ext_getElem?
  intro i
  rw [hf.2 i]
  have hg := splice_get h i
  simp only [Nat.add_zero, List.length_map]
  have e2 : (⟨r.map (AV.conc ρ)⟩ : Array Value)[i]? = (r[i]?).map (AV.conc ρ) := by simp
  have e3 : (⟨l.map (AV.conc ρ)⟩ : Array Value)[i]? = (l[i]?).map (AV.conc ρ) := by simp
  rw [e2, e3, hg]
  have hs : (⟨l.map (AV.conc ρ)⟩ : Array Value).size = l.length := by simp
  rw [hs]
  by_cases hr : o ≤ i ∧ i < o + vs.length
  · rw [if_pos hr, if_pos ⟨hr.1, hr.2, by omega⟩, List.getElem?_map]
  · rw [if_neg hr, if_neg (by omega)]
/-- the parts of an aggregate put in their places -/
def xFill (place : Nat → Option (Nat × Nat)) (l : List AV) : List (Nat × AV) → Option (List AV)
  | [] => some l
  | (i, v) :: rest => match place i with
    | none => none
    | some (off, size) => bif v.plain && v.cells.length.beq size then (match splice l off v.cells with
      | some l' => xFill place l' rest
      | none => none) else none
theorem xFill_ok {ρ : Env} {n : Nat} {place : Nat → Option (Nat × Nat)} : ∀ {ps : List (Nat × AV)} {l r : List AV}, xFill place l ps = some r → AV.wfs ρ n l → (∀ p ∈ ps, p.2.wf ρ n) →
    Instr.fill place ⟨l.map (AV.conc ρ)⟩ (ps.map fun p => (p.1, p.2.conc ρ)) = some ⟨r.map (AV.conc ρ)⟩ ∧ AV.wfs ρ n r ∧ r.length = l.length
  | [], l, r, h, hl, _ => by simp only [xFill, Option.some.injEq] at h; subst h; exact ⟨rfl, hl, rfl⟩
  | (i, v) :: rest, l, r, h, hl, hp => by
    simp only [xFill] at h
    split at h
    · cases h
    · rename_i off size hpl
      cases hc : (v.plain && v.cells.length.beq size) with
      | false => rw [hc] at h; cases h
      | true =>
        rw [hc] at h
        simp only [cond_true] at h
        rw [Bool.and_eq_true] at hc
        have hsz := Nat.eq_of_beq_eq_true hc.2
        split at h
        · rename_i l' hs
          obtain ⟨hw, hlen⟩ := splice_wf (ρ := ρ) (n := n) hs hl (wf_cells (hp (i, v) (by simp)))
          obtain ⟨h1, h2, h3⟩ := xFill_ok h hw (fun p hp' => hp p (by simp [hp']))
          refine ⟨?_, h2, by omega⟩
          simp only [List.map_cons, Instr.fill, hpl]
          rw [conc_cells ρ hc.1]
          have hle := (splice_eq hs).1
          have e1 : ¬ ((decide ((⟨v.cells.map (AV.conc ρ)⟩ : Array Value).size ≠ size) || decide (off + (⟨v.cells.map (AV.conc ρ)⟩ : Array Value).size > (⟨l.map (AV.conc ρ)⟩ : Array Value).size)) = true) := by
            simp; omega
          rw [if_neg e1, ← h1]
          have := splice_array (ρ := ρ) hs
          unfold putAt at this
          rw [this]
        · cases h
theorem rp {α : Type} {P : Program} (a : α) (w : World) : (pure a : Sem α).run P w = .ok a w := rfl
def fieldPl (P : Program) (fs : Array Field) (i : Nat) : Option (Nat × Nat) := match fs[i]? with
  | some f => match aSize P f.type with
    | some s => some (f.offset, s)
    | none => none
  | none => none
def allSized (P : Program) : List Field → Bool
  | [] => true
  | f :: l => match aSize P f.type with
    | some _ => allSized P l
    | none => false
theorem allSized_run {P : Program} : ∀ {l : List Field}, allSized P l = true → ∀ w, ∃ r : List (Nat × Nat), (l.mapM fun (f : Field) => (do pure (f.offset, ← sizeOf f.type) : Sem (Nat × Nat))).run P w = .ok r w ∧ ∀ i : Nat, r[i]? = (l[i]?).bind fun (f : Field) => (aSize P f.type).map fun s => (f.offset, s)
  | [], _, w => ⟨[], rfl, fun i => by simp⟩
  | f :: l, h, w => by
    simp only [allSized] at h
    split at h
    · rename_i s hs
      obtain ⟨r, h1, h2⟩ := allSized_run h w
      refine ⟨(f.offset, s) :: r, ?_, fun i => ?_⟩
      · simp only [List.mapM_cons, Sem.run_bind, run_size hs, Result.andThen_ok, rp, h1]
      cases i with
      | zero => simp [hs]
      | succ i => simp [h2]
    · cases h
def xBuild (P : Program) (t : TypeId) (ps : List (Nat × AV)) : Option AV :=
  match aZero P t with
  | none => none
  | some z => match P.underlying t with
    | some (.struct fs) => bif allSized P fs.toList then (xFill (fieldPl P fs) z.cells ps).map .agg else none
    | some (.array _ e) => match aSize P e with
      | some s => (xFill (fun i => some (i * s, s)) z.cells ps).map .agg
      | none => none
    | _ => none
theorem fill_congr {p q : Nat → Option (Nat × Nat)} (h : ∀ i, p i = q i) (c : Array Value) (l : List (Nat × Value)) : Instr.fill p c l = Instr.fill q c l := by
  rw [show p = q from funext h]
theorem xBuild_ok {P : Program} {ρ : Env} {n : Nat} {t : TypeId} {ps : List (Nat × AV)} {v : AV} (hx : ∀ p ∈ ps, p.2.wf ρ n) (h : xBuild P t ps = some v) (w : World) :
    (Instr.build t ⟨ps.map fun p => (p.1, p.2.conc ρ)⟩).run P w = .ok (v.conc ρ) w ∧ v.wf ρ n := by
  unfold xBuild at h
  split at h
  · cases h
  · rename_i z hz
    have hzr := run_zero (ρ := ρ) hz w
    obtain ⟨hzp, hzw⟩ := zero_plain hz
    split at h
    · rename_i fs hu
      cases ha : allSized P fs.toList with
      | false => rw [ha] at h; cases h
      | true =>
        rw [ha] at h
        obtain ⟨r, hr, rfl⟩ := Option.map_eq_some_iff.1 h
        obtain ⟨h1, h2, _⟩ := xFill_ok (ρ := ρ) (n := n) hr (wf_cells (hzw ρ n)) hx
        refine ⟨?_, h2⟩
        obtain ⟨r', g1, g2⟩ := allSized_run ha w
        have hm : (fs.mapM fun (f : Field) => (do pure (f.offset, ← sizeOf f.type) : Sem (Nat × Nat))).run P w = .ok r'.toArray w := by
          rw [Array.mapM_eq_mapM_toList, Sem.run_map, g1]
          rfl
        have hpl : ∀ i, r'.toArray[i]? = fieldPl P fs i := fun i => by
          rw [List.getElem?_toArray, g2]
          unfold fieldPl
          rw [Array.getElem?_toList]
          cases fs[i]? with
          | none => rfl
          | some f => cases h' : aSize P f.type <;> simp [h']
        have hfill : Instr.fill (r'.toArray[·]?) ⟨z.cells.map (AV.conc ρ)⟩ (ps.map fun p => (p.1, p.2.conc ρ)) = some ⟨r.map (AV.conc ρ)⟩ := (fill_congr hpl _ _).trans h1
        simp only [Instr.build, Sem.run_bind, hzr, Result.andThen_ok, run_underlying hu, hm, conc_cells ρ hzp, hfill, AV.conc, concs_map]
        rfl
    · rename_i k e hu
      split at h
      · rename_i s hs
        obtain ⟨r, hr, rfl⟩ := Option.map_eq_some_iff.1 h
        obtain ⟨h1, h2, _⟩ := xFill_ok (ρ := ρ) (n := n) hr (wf_cells (hzw ρ n)) hx
        refine ⟨?_, h2⟩
        simp only [Instr.build, Sem.run_bind, hzr, Result.andThen_ok, run_underlying hu, run_size hs, conc_cells ρ hzp, h1, AV.conc, concs_map]
        rfl
      · cases h
    · cases h
end
end Cx
end Go.Proofs.YtboondbognbnnaaGreatDoor

set_option linter.unusedVariables false
set_option linter.unusedSimpArgs false
namespace Go.Proofs.YtboondbognbnnaaGreatDoor
namespace Cx
noncomputable section
def xMkI (P : Program) (t : TypeId) (x : AV) : Option AV :=
  match P.underlying t with
  | some (.interface _) => none
  | some _ => some (.ifc t x)
  | none => none
theorem xMkI_ok {P : Program} {ρ : Env} {n : Nat} {t : TypeId} {x v : AV} (hx : x.wf ρ n) (h : xMkI P t x = some v) (w : World) :
    (Instr.makeInterface t (x.conc ρ)).run P w = .ok (v.conc ρ) w ∧ v.wf ρ n := by
  unfold xMkI at h
  split at h
  · cases h
  · rename_i d hd hu
    cases h
    refine ⟨?_, hx⟩
    cases d <;> first | (simp [Instr.makeInterface, run_underlying hu, AV.conc]; done) | exact (hd _ rfl).elim
  · cases h
def allLits : List AV → Option (List Value)
  | [] => some []
  | .lit v :: l => (allLits l).map (v :: ·)
  | _ => none
theorem allLits_eq {ρ : Env} : ∀ {l : List AV} {r : List Value}, allLits l = some r → l.map (AV.conc ρ) = r
  | [], r, h => by simp only [allLits, Option.some.injEq] at h; subst h; rfl
  | .lit v :: l, r, h => by
    simp only [allLits, Option.map_eq_some_iff] at h
    obtain ⟨r', h', rfl⟩ := h
    simp [allLits_eq (ρ := ρ) h', AV.conc]
  | .ptr .. :: l, r, h => by simp [allLits] at h
  | .slc .. :: l, r, h => by simp [allLits] at h
  | .mp .. :: l, r, h => by simp [allLits] at h
  | .agg .. :: l, r, h => by simp [allLits] at h
  | .tup .. :: l, r, h => by simp [allLits] at h
  | .ifc .. :: l, r, h => by simp [allLits] at h
  | .fn .. :: l, r, h => by simp [allLits] at h
  | .yld .. :: l, r, h => by simp [allLits] at h
  | .mrk .. :: l, r, h => by simp [allLits] at h
def nextVal : Next → Option AV
  | .value v => some (litAgg v)
  | _ => none
def xSlcBuiltin (P : Program) (b : Builtin) (t : Option TypeId) (len : Nat) (c : Option Nat) : Option AV :=
  match t with
  | none => none
  | some t => match P.underlying t with
    | some (.slice _) => match b, c with
      | .len, _ => some (.lit (.int .i64 (Int.ofNat len)))
      | .cap, some k => some (.lit (.int .i64 (Int.ofNat k)))
      | _, _ => none
    | _ => none
def xBuiltin (P : Program) (b : Builtin) (ts : Array TypeId) (ty : TypeId) (cs : Array Bool) (args : List AV) : Option AV :=
  match args with
  | .slc _ _ _ _ len c :: _ => xSlcBuiltin P b ts[0]? len c
  | args => match allLits args with
    | some vs => match quick P (builtin b ts ty cs ⟨vs⟩) with
      | some r => nextVal r
      | none => none
    | none => none
theorem xBuiltin_ok {P : Program} {ρ : Env} {n : Nat} {b : Builtin} {ts : Array TypeId} {ty : TypeId} {cs : Array Bool} {args : List AV} {v : AV} (h : xBuiltin P b ts ty cs args = some v) (w : World) :
    (builtin b ts ty cs ⟨args.map (AV.conc ρ)⟩).run P w = .ok (.value (v.conc ρ)) w ∧ v.wf ρ n := by
  unfold xBuiltin at h
  split at h
  · rename_i b' o o' j len c rest
    unfold xSlcBuiltin at h
    split at h
    · cases h
    · rename_i t ht
      split at h
      · rename_i e hu
        split at h
        · cases h
          refine ⟨?_, trivial⟩
          simp [builtin, Builtin.len_, ht, run_underlying hu, AV.conc, goInt]
        · rename_i k
          cases h
          refine ⟨?_, trivial⟩
          simp [builtin, Builtin.cap_, ht, run_underlying hu, AV.conc, capOf, goInt]
        · cases h
      · cases h
  · split at h
    · rename_i vs hvs
      split at h
      · rename_i r hr
        rw [allLits_eq hvs]
        unfold nextVal at h
        split at h
        · cases h
          rw [conc_litAgg]
          exact ⟨quick_run hr w, wf_litAgg _ _ _⟩
        · cases h
      · cases h
    · cases h
def xAssert (P : Program) (t : TypeId) (ok : Bool) (x : AV) : Option AV :=
  match x with
  | .ifc u v => match P.underlying t with
    | some (.interface _) => none
    | some _ => bif u.beq t then some (bif ok then .tup [v, .lit (.bool true)] else v) else none
    | none => none
  | _ => none
theorem xAssert_ok {P : Program} {ρ : Env} {n : Nat} {t xt : TypeId} {ok : Bool} {x v : AV} (hx : x.wf ρ n) (h : xAssert P t ok x = some v) (w : World) :
    (Instr.typeAssert (x.conc ρ) xt t ok).run P w = .ok (v.conc ρ) w ∧ v.wf ρ n := by
  unfold xAssert at h
  split at h
  · rename_i u v'
    split at h
    · cases h
    · rename_i d hd hu
      cases hb : u.beq t with
      | false => rw [hb] at h; cases h
      | true =>
        rw [hb] at h
        have := Nat.eq_of_beq_eq_true hb
        subst this
        cases ok
        · cases h
          refine ⟨?_, hx⟩
          cases d <;> first | (simp [Instr.typeAssert, run_underlying hu, AV.conc]; done) | exact (hd _ rfl).elim
        · cases h
          refine ⟨?_, show AV.wf ρ n (.tup [v', .lit (.bool true)]) from by (simp only [AV.wf, AV.wfs]; exact ⟨hx, trivial, trivial⟩)⟩
          show _ = Result.ok (AV.conc ρ (.tup [v', .lit (.bool true)])) w
          cases d <;> first | (simp [Instr.typeAssert, run_underlying hu, AV.conc, AV.concs]; done) | exact (hd _ rfl).elim
    · cases h
  · cases h
def xPick (c a b : AV) : Option AV :=
  match c with
  | .lit (.bool t) => some (bif t then a else b)
  | _ => none
def xCallPure (P : Program) (c : Call) (ty : TypeId) (ev : Operand → AV) : Option AV :=
  match c.callee with
  | .builtin b => xBuiltin P b c.argTypes ty (c.args.map fun | .const _ => true | _ => false) (c.args.toList.map ev)
  | _ => none
def xPure (P : Program) (ev : Operand → AV) (o : Oper) : Option AV :=
  match o.op with
  | .move x => some (ev x)
  | .assign x => some (ev x)
  | .pick c a b => xPick (ev c) (ev a) (ev b)
  | .build t ps => xBuild P t (ps.toList.map fun p => (p.1, ev p.2))
  | .nilCheck x => xNil (ev x)
  | .binOp op t x y _ => xBin P op t x y (ev x) (ev y)
  | .unOp op _ x => xUn P op (ev x)
  | .convert s d x => xConv P s d (ev x)
  | .makeInterface t x => xMkI P t (ev x)
  | .makeFunc fn f c => some (.fn fn (f.toList.map ev) (c.toList.map ev))
  | .slice t x lo hi mx => xSliceAt P t (ev x) (lo.map ev) (hi.map ev) (mx.map ev)
  | .fieldAddr s x f => xFieldAddr P s (ev x) f
  | .field s x f => xField P s (ev x) f
  | .indexAddr t x i => xIndexAddr P t (ev x) (ev i)
  | .index t x i => xIndex P t (ev x) (ev i)
  | .extract x i => xExtract (ev x) i
  | .typeAssert x _ t ok => xAssert P t ok (ev x)
  | .call c => xCallPure P c o.type ev
  | _ => none
theorem map_ev {ρ : Env} {a : Act} {ev : Operand → AV} (he : ∀ x, a.eval x = (ev x).conc ρ) (xs : Array Operand) : xs.map a.eval = ⟨(xs.toList.map ev).map (AV.conc ρ)⟩ := by
  apply Array.ext'
  simp [he, Function.comp_def]
theorem opt_ev {ρ : Env} {a : Act} {ev : Operand → AV} (he : ∀ x, a.eval x = (ev x).conc ρ) (x : Option Operand) : x.map a.eval = (x.map ev).map (AV.conc ρ) := by
  cases x <;> simp [he]
theorem parts_ev {ρ : Env} {a : Act} {ev : Operand → AV} (he : ∀ x, a.eval x = (ev x).conc ρ) (ps : Array (Nat × Operand)) :
    (ps.map fun (i, x) => (i, a.eval x)) = ⟨(ps.toList.map fun p => (p.1, ev p.2)).map fun p => (p.1, p.2.conc ρ)⟩ := by
  apply Array.ext'
  simp [he, Function.comp_def]
theorem nil2_cases {P : Program} {t : TypeId} {x y : AV} {b : Bool} (h : nil2 P t x y = some b) : (∃ l, y = .lit l ∧ nilEq P t x l = some b) ∨ (∃ l, x = .lit l ∧ nilEq P t y l = some b) := by
  cases y with
  | lit l => exact .inl ⟨l, rfl, h⟩
  | _ =>
    cases x with
    | lit l => exact .inr ⟨l, rfl, h⟩
    | _ => simp [nil2] at h
theorem nilEq_guard {P : Program} {ρ : Env} {t : TypeId} {s : AV} {l : Value} {b : Bool} (hb : nilEq P t s l = some b) (op : BinOp) (x y : Operand) (w : World) :
    (eqGuard op t x y (s.conc ρ) l).run P w = .ok () w ∧ (eqGuard op t x y l (s.conc ρ)).run P w = .ok () w := by
  unfold nilEq at hb
  split at hb <;> (try cases hb) <;> (by_cases ho : (!(op matches .eql | .neq)) = true <;> simp [eqGuard, AV.conc, rp])
theorem nilEq_bin {P : Program} {ρ : Env} {t : TypeId} {s : AV} {l : Value} {b : Bool} (hb : nilEq P t s l = some b) (w : World) :
    (binOp .eql t (s.conc ρ) l).run P w = .ok (.bool b) w ∧ (binOp .eql t l (s.conc ρ)).run P w = .ok (.bool b) w ∧
    (binOp .neq t (s.conc ρ) l).run P w = .ok (.bool (!b)) w ∧ (binOp .neq t l (s.conc ρ)).run P w = .ok (.bool (!b)) w := by
  obtain ⟨h1, h2⟩ := nilEq_ok (ρ := ρ) hb w
  unfold nilEq at hb
  split at hb <;> (try cases hb) <;> simp only [AV.conc] at h1 h2 ⊢ <;> simp [binOp, h1, h2]
theorem xPure_ok {P : Program} {ρ : Env} {n : Nat} {ev : Operand → AV} {a : Act} {o : Oper} {v : AV} (he : ∀ x, a.eval x = (ev x).conc ρ) (hw : ∀ x, (ev x).wf ρ n) (h : xPure P ev o = some v) :
    (∀ w, (execOp a.eval o).run P w = .ok (.value (v.conc ρ)) w) ∧ v.wf ρ n := by
  unfold xPure at h
  split at h
  · rename_i x ho
    cases h
    exact ⟨fun w => by simp [execOp, ho, he], hw x⟩
  · rename_i x ho
    cases h
    exact ⟨fun w => by simp [execOp, ho, he], hw x⟩
  · rename_i c x y ho
    unfold xPick at h
    split at h
    · rename_i t hc
      cases h
      refine ⟨fun w => ?_, by cases t <;> first | exact hw x | exact hw y⟩
      have hc' : a.eval c = .bool t := by rw [he, hc]; rfl
      cases t <;> simp [execOp, ho, hc', asBool, he]
    · cases h
  · rename_i t ps ho
    have hb := fun w => xBuild_ok (ρ := ρ) (n := n) (fun p hp => by obtain ⟨q, hq, rfl⟩ := List.mem_map.1 hp; exact hw q.2) h w
    refine ⟨fun w => ?_, (hb default).2⟩
    simp only [execOp, ho, parts_ev he, Sem.run_bind, (hb w).1, Result.andThen_ok, rp]
  · rename_i x ho
    exact ⟨fun w => (xNil_ok (hw x) h ho (he x) w).1, (xNil_ok (P := P) (hw x) h ho (he x) default).2⟩
  · rename_i op t x y yt ho
    unfold xBin at h
    split at h
    · rename_i u v' hx hy
      obtain ⟨r, hr, rfl⟩ := Option.map_eq_some_iff.1 h
      refine ⟨fun w => ?_, wf_litAgg _ _ _⟩
      have hx' : a.eval x = u := by rw [he, hx]; rfl
      have hy' : a.eval y = v' := by rw [he, hy]; rfl
      rw [conc_litAgg]
      simp only [execOp, ho, hx', hy', Sem.run_bind]
      have := quick_run hr w
      simp only [Sem.run_bind] at this
      rw [this]
      rfl
    · split at h
      · obtain ⟨b, hb, rfl⟩ := Option.map_eq_some_iff.1 h
        refine ⟨fun w => ?_, by simp only [AV.wf]⟩
        simp only [execOp, ho, Sem.run_bind, AV.conc]
        rw [he, he]
        rcases nil2_cases hb with ⟨l, hl, hb⟩ | ⟨l, hl, hb⟩
        · rw [hl]
          simp only [AV.conc, (nilEq_guard (ρ := ρ) hb .eql x y w).1, (nilEq_bin (ρ := ρ) hb w).1, Result.andThen_ok, rp]
        · rw [hl]
          simp only [AV.conc, (nilEq_guard (ρ := ρ) hb .eql x y w).2, (nilEq_bin (ρ := ρ) hb w).2.1, Result.andThen_ok, rp]
      · obtain ⟨b, hb, rfl⟩ := Option.map_eq_some_iff.1 h
        refine ⟨fun w => ?_, by simp only [AV.wf]⟩
        simp only [execOp, ho, Sem.run_bind, AV.conc]
        rw [he, he]
        rcases nil2_cases hb with ⟨l, hl, hb⟩ | ⟨l, hl, hb⟩
        · rw [hl]
          simp only [AV.conc, (nilEq_guard (ρ := ρ) hb .neq x y w).1, (nilEq_bin (ρ := ρ) hb w).2.2.1, Result.andThen_ok, rp]
        · rw [hl]
          simp only [AV.conc, (nilEq_guard (ρ := ρ) hb .neq x y w).2, (nilEq_bin (ρ := ρ) hb w).2.2.2, Result.andThen_ok, rp]
      · cases h
  · rename_i op t x ho
    unfold xUn at h
    split at h
    · rename_i u hx
      obtain ⟨r, hr, rfl⟩ := Option.map_eq_some_iff.1 h
      refine ⟨fun w => ?_, wf_litAgg _ _ _⟩
      have hx' : a.eval x = u := by rw [he, hx]; rfl
      rw [conc_litAgg]
      simp only [execOp, ho, hx', Sem.run_bind, quick_run hr w, Result.andThen_ok, rp]
    · cases h
  · rename_i s d x ho
    unfold xConv at h
    split at h
    · rename_i u hx
      obtain ⟨r, hr, rfl⟩ := Option.map_eq_some_iff.1 h
      refine ⟨fun w => ?_, wf_litAgg _ _ _⟩
      have hx' : a.eval x = u := by rw [he, hx]; rfl
      rw [conc_litAgg]
      simp only [execOp, ho, hx', Sem.run_bind, quick_run hr w, Result.andThen_ok, rp]
    · cases h
  · rename_i t x ho
    refine ⟨fun w => ?_, (xMkI_ok (hw x) h default).2⟩
    simp only [execOp, ho, he, Sem.run_bind, (xMkI_ok (hw x) h w).1, Result.andThen_ok, rp]
  · rename_i fn f c ho
    cases h
    refine ⟨fun w => ?_, by simp only [AV.wf]; exact ⟨(wfs_iff ρ n _).2 (fun v hv => by obtain ⟨q, _, rfl⟩ := List.mem_map.1 hv; exact hw q), (wfs_iff ρ n _).2 (fun v hv => by obtain ⟨q, _, rfl⟩ := List.mem_map.1 hv; exact hw q)⟩⟩
    simp only [execOp, ho, map_ev he, Instr.makeFunc, Sem.run_bind, rp, Result.andThen_ok, AV.conc, concs_map]
  · rename_i t x lo hi mx ho
    refine ⟨fun w => ?_, (xSliceAt_ok (hw x) h default).2⟩
    simp only [execOp, ho, opt_ev he, he, Sem.run_bind, (xSliceAt_ok (hw x) h w).1, Result.andThen_ok, rp]
  · rename_i s x f ho
    refine ⟨fun w => ?_, (xFieldAddr_ok (hw x) h default).2⟩
    simp only [execOp, ho, he, Sem.run_bind, (xFieldAddr_ok (hw x) h w).1, Result.andThen_ok, rp]
  · rename_i s x f ho
    refine ⟨fun w => ?_, (xField_ok (hw x) h default).2⟩
    simp only [execOp, ho, he, Sem.run_bind, (xField_ok (hw x) h w).1, Result.andThen_ok, rp]
  · rename_i t x i ho
    refine ⟨fun w => ?_, (xIndexAddr_ok (hw x) h default).2⟩
    simp only [execOp, ho, he, Sem.run_bind, (xIndexAddr_ok (hw x) h w).1, Result.andThen_ok, rp]
  · rename_i t x i ho
    refine ⟨fun w => ?_, (xIndex_ok (hw x) h default).2⟩
    simp only [execOp, ho, he, Sem.run_bind, (xIndex_ok (hw x) h w).1, Result.andThen_ok, rp]
  · rename_i x i ho
    refine ⟨fun w => ?_, (xExtract_ok (P := P) (hw x) h default).2⟩
    simp only [execOp, ho, he, Sem.run_bind, (xExtract_ok (hw x) h w).1, Result.andThen_ok, rp]
  · rename_i x xt t ok ho
    refine ⟨fun w => ?_, (xAssert_ok (xt := xt) (hw x) h default).2⟩
    simp only [execOp, ho, he, Sem.run_bind, (xAssert_ok (hw x) h w).1, Result.andThen_ok, rp]
  · rename_i c ho
    unfold xCallPure at h
    split at h
    · rename_i b hb
      refine ⟨fun w => ?_, (xBuiltin_ok (ρ := ρ) (n := n) h default).2⟩
      simp only [execOp, ho, resolve, hb, Sem.run_bind, rp, Result.andThen_ok, invoke, map_ev he]
      exact (xBuiltin_ok (ρ := ρ) (n := n) h w).1
    · cases h
  · cases h
end
end Cx
end Go.Proofs.YtboondbognbnnaaGreatDoor
