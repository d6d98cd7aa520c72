/- Package word: the cutter in memory. Package word: close. -/
import Derived.Test.YtpfkhdlnjefikaaGreatDoorMPyAA
import Derived.Test.YtpfkhdlnjefikaaGreatDoorMPwAS
import Derived.Lib.AppendStr
set_option linter.unusedVariables false
set_option linter.unusedSimpArgs false
namespace Go.Proofs.YtpfkhdlnjefikaaGreatDoor
open Go.RowKit Go.WideMaps Go.Maps
namespace Pz
/-- a block holds cells of a type -/
def Typed (w : World) (b : Nat) (ty : TypeId) : Prop := ∃ cs fz, w.heap[b]? = some (.cells cs ty fz)
theorem Typed.kept {w w' : World} {b : Nat} {ty : TypeId} (h : Typed w b ty) (hk : w'.heap[b]? = w.heap[b]?) : Typed w' b ty := by
 obtain ⟨cs, fz, h⟩ := h
 exact ⟨cs, fz, hk.trans h⟩
theorem Typed.set {w : World} {b : Nat} {ty : TypeId} (h : Typed w b ty) (q : Addr) (u : Value) : Typed (w.setCell q u) b ty := by
 obtain ⟨cs, fz, h⟩ := h
 by_cases hq : q.block = b
 · refine ⟨if q.spot.isSome then cs else cs.setIfInBounds q.off u, fz, ?_⟩
   show (w.heap.modify q.block _)[b]? = _
   rw [Array.getElem?_modify, if_pos hq, h]
   rfl
 · exact ⟨cs, fz, (Below.heap_setCell _ _ _ _ (fun e => hq e.symm)).trans h⟩
theorem Typed.ne {w : World} {b c : Nat} {t u : TypeId} (h : Typed w b t) (k : Typed w c u) (htu : t ≠ u) : b ≠ c := fun e => by
 subst e
 obtain ⟨cs, fz, h⟩ := h
 obtain ⟨ds, fy, k⟩ := k
 rw [h] at k
 injection k with k
 injection k with _ k _
 exact htu k
theorem row_typed {w : World} {base : Nat} {e : TypeId} {size n : Nat} {v : Value} {xs : List Value} (h : w.ownsRow base e size v n xs) {g : Nat} (hg : v.ownBlock = some g) : Typed w g e := by
 rcases h.2 with ⟨rfl, _⟩ | ⟨g', cap, cur, rfl, hb, hgg, _⟩
 · cases hg
 · have : g' = g := by simpa [Value.ownBlock] using hg
   subst this
   exact ⟨cur, _, hgg⟩
def wflat (vs : List W) : List Value := vs.flatMap fun v => (wcells v).toList
theorem wflat_snoc (vs : List W) (v : W) : wflat (vs ++ [v]) = wflat vs ++ (wcells v).toList := by simp [wflat]
theorem wflat_len (vs : List W) : (wflat vs).length = vs.length * 3 := by
 unfold wflat
 induction vs with
 | nil => rfl
 | cons v vs ih => rw [List.flatMap_cons, List.length_append, ih]; simp; omega
theorem wflat_at : ∀ (vs : List W) (i : Nat) (v : W), vs[i]? = some v → ∀ (j : Nat) (c : Value), (wcells v)[j]? = some c → (wflat vs)[i * 3 + j]? = some c
 | [], i, v, h, _, _, _ => by simp at h
 | x :: vs, 0, v, h, j, c, hc => by
   cases h
   have hj := (Array.getElem?_eq_some_iff.1 hc).1
   unfold wflat
   rw [List.flatMap_cons, List.getElem?_append_left (by simpa using hj)]
   simpa using hc
 | x :: vs, i + 1, v, h, j, c, hc => by
   have ih := wflat_at vs i v (by simpa using h) j c hc
   unfold wflat at ih ⊢
   rw [List.flatMap_cons, List.getElem?_append_right (by simp; omega)]
   simp only [Array.length_toList, List.size_toArray, List.length_cons, List.length_nil]
   rw [show (i + 1) * 3 + j - (0 + 1 + 1 + 1) = i * 3 + j from by omega]
   exact ih
/-- a cutter in memory: the words as they lie, and the row of the last word's bytes -/
structure CM (B : Nat) (X : World) (cb mb : Nat) (S : ByteArray) (n : Nat) (wv : Value) (last : Int) (rv : Value) (vs : List W) (k : List UInt8) : Prop where
 box : Boxd X cb #[.string S, .int .i64 (n : Int), wv, .map (some mb), .int .i64 last, rv]
 ty : Typed X cb 101
 words : X.ownsRow B 71 3 wv vs.length (wflat vs)
 row : X.ownsRow B 5 1 rv k.length (Lib.strCells (bytes k))
 map : X.ownsMap Tryz.prog 9 Hv mb 21 (putS (.map []) spM)
 cb0 : B ≤ cb
 mb0 : B ≤ mb
theorem map_ne {w : World} {mb b n : Nat} {ty : TypeId} {D : DataW Value} (h : w.ownsMap Tryz.prog 9 Hv mb n D) (k : Typed w b ty) : mb ≠ b := fun e => by
 subst e
 obtain ⟨es, clock, hb, _⟩ := h
 obtain ⟨cs, fz, k⟩ := k
 rw [hb] at k
 cases k
theorem ownsMap_keep {w w' : World} {mb n : Nat} {D : DataW Value} (h : w.ownsMap Tryz.prog 9 Hv mb n D) (hk : w'.heap[mb]? = w.heap[mb]?) : w'.ownsMap Tryz.prog 9 Hv mb n D := by
 obtain ⟨es, clock, hb, F, hs, hD⟩ := h
 exact ⟨es, clock, hk.trans hb, F, hs, hD⟩
theorem CM.later {B : Nat} {X X' : World} {cb mb : Nat} {S : ByteArray} {n : Nat} {wv rv : Value} {last : Int} {vs : List W} {k : List UInt8} (h : CM B X cb mb S n wv last rv vs k) (hb : Below X.heap.size X X') : CM B X' cb mb S n wv last rv vs k :=
 ⟨h.box.later hb, h.ty.kept (hb.block _ h.box.lt), ownsRow_kept h.words (fun g hg => hb.block g (ownsRow_lt h.words g hg).2), ownsRow_kept h.row (fun g hg => hb.block g (ownsRow_lt h.row g hg).2), ownsMap_keep h.map (hb.block _ h.map.lt), h.cb0, h.mb0⟩
section
variable {B : Nat} {X : World} {cb mb : Nat} {S : ByteArray} {n : Nat} {wv rv : Value} {last : Int} {vs : List W} {k : List UInt8} (h : CM B X cb mb S n wv last rv vs k)
include h
theorem CM.w_cb {g : Nat} (hg : wv.ownBlock = some g) : g ≠ cb := (row_typed h.words hg).ne h.ty (by decide)
theorem CM.r_cb {g : Nat} (hg : rv.ownBlock = some g) : g ≠ cb := (row_typed h.row hg).ne h.ty (by decide)
theorem CM.m_cb : mb ≠ cb := map_ne h.map h.ty
theorem CM.w_m {g : Nat} (hg : wv.ownBlock = some g) : mb ≠ g := map_ne h.map (row_typed h.words hg)
theorem CM.r_m {g : Nat} (hg : rv.ownBlock = some g) : mb ≠ g := map_ne h.map (row_typed h.row hg)
theorem CM.w_r {g c : Nat} (hg : wv.ownBlock = some g) (hc : rv.ownBlock = some c) : g ≠ c := (row_typed h.words hg).ne (row_typed h.row hc) (by decide)
/-- a cell of the cutter's own -/
theorem CM.set (i : Nat) (u : Value) {n' : Nat} {wv' rv' : Value} {last' : Int} (hd : (#[.string S, .int .i64 (n : Int), wv, .map (some mb), .int .i64 last, rv] : Array Value).setIfInBounds i u = #[.string S, .int .i64 (n' : Int), wv', .map (some mb), .int .i64 last', rv']) (hi : i < 6) {vs' : List W} {k' : List UInt8}
   (hw : X.ownsRow B 71 3 wv' vs'.length (wflat vs')) (hr : X.ownsRow B 5 1 rv' k'.length (Lib.strCells (bytes k'))) : CM B (X.setCell ⟨cb, i, none⟩ u) cb mb S n' wv' last' rv' vs' k' := by
 refine ⟨by rw [← hd]; exact h.box.put i u (by simpa using hi), h.ty.set _ _, ?_, ?_, ?_, h.cb0, h.mb0⟩
 · exact ownsRow_kept hw (fun g hg => Below.heap_setCell _ _ _ _ ((row_typed hw hg).ne h.ty (by decide)))
 · exact ownsRow_kept hr (fun g hg => Below.heap_setCell _ _ _ _ ((row_typed hr hg).ne h.ty (by decide)))
 · exact ownsMap_keep h.map (Below.heap_setCell _ _ _ _ h.m_cb)
/-- only a row of the cutter's own was written, or new blocks -/
theorem CM.grown {w' : World} {r : Option Nat} (hg : X.grownBy w' r) (hr : ∀ g, r = some g → ∃ t, Typed X g t ∧ t ≠ 101) : Boxd w' cb #[.string S, .int .i64 (n : Int), wv, .map (some mb), .int .i64 last, rv] ∧ Typed w' cb 101 ∧ w'.ownsMap Tryz.prog 9 Hv mb 21 (putS (.map []) spM) := by
 have hcb : w'.heap[cb]? = X.heap[cb]? := hg.block _ h.box.lt (fun e => by obtain ⟨t, ht, hne⟩ := hr cb e.symm; exact ht.ne h.ty hne rfl)
 have hmb : w'.heap[mb]? = X.heap[mb]? := hg.block _ h.map.lt (fun e => by obtain ⟨t, ht, _⟩ := hr mb e.symm; exact map_ne h.map ht rfl)
 exact ⟨h.box.kept hcb hg.size, h.ty.kept hcb, ownsMap_keep h.map hmb⟩
theorem CM.cells : X.cell? ⟨cb, 0, none⟩ = some (.string S) ∧ X.cell? ⟨cb, 1, none⟩ = some (.int .i64 (n : Int)) ∧ X.cell? ⟨cb, 2, none⟩ = some wv ∧ X.cell? ⟨cb, 3, none⟩ = some (.map (some mb)) ∧ X.cell? ⟨cb, 4, none⟩ = some (.int .i64 last) ∧ X.cell? ⟨cb, 5, none⟩ = some rv ∧ (∀ o, X.frozen? ⟨cb, o, none⟩ = false) ∧ cb < X.heap.size :=
 ⟨h.box.cell 0 _ rfl, h.box.cell 1 _ rfl, h.box.cell 2 _ rfl, h.box.cell 3 _ rfl, h.box.cell 4 _ rfl, h.box.cell 5 _ rfl, h.box.fz, h.box.lt⟩
end
/-- the words, the last one's text put right -/
def fixW (vs : List W) (k : List UInt8) : List W := match vs.getLast? with | some v => if v.kind = 1 then vs.dropLast ++ [{ v with text := k }] else vs | none => vs
theorem fixW_nil (k : List UInt8) : fixW [] k = [] := rfl
theorem fixW_snoc (vs : List W) (v : W) (k : List UInt8) : fixW (vs ++ [v]) k = if v.kind = 1 then vs ++ [{ v with text := k }] else vs ++ [v] := by
 unfold fixW
 simp
theorem fixW_len (vs : List W) (k : List UInt8) : (fixW vs k).length = vs.length := by
 rcases List.eq_nil_or_concat vs with rfl | ⟨l, v, rfl⟩
 · rfl
 · rw [List.concat_eq_append, fixW_snoc]
   split <;> simp
theorem fixW_fix (vs : List W) (k : List UInt8) : fixW (fixW vs k) k = fixW vs k := by
 rcases List.eq_nil_or_concat vs with rfl | ⟨l, v, rfl⟩
 · rfl
 · rw [List.concat_eq_append, fixW_snoc]
   split
   · rename_i h; rw [fixW_snoc, if_pos h]
   · rename_i h; rw [fixW_snoc, if_neg h]
theorem fixW_put (vs : List W) (v : W) : fixW (vs ++ [v]) v.text = vs ++ [v] := by
 rw [fixW_snoc]
 split <;> rfl
end Pz
end Go.Proofs.YtpfkhdlnjefikaaGreatDoor
namespace Go.Proofs.YtpfkhdlnjefikaaGreatDoor
open Go.RowKit Go.WideMaps Go.Maps
namespace Pz
theorem row_forms {w : World} {base : Nat} {e : TypeId} {size n : Nat} {v : Value} {xs : List Value} (h : w.ownsRow base e size v n xs) : ∃ A cap, v = .slice A n cap := by
 rcases h.2 with ⟨rfl, rfl⟩ | ⟨g, cap, _, rfl, _⟩
 · exact ⟨none, 0, rfl⟩
 · exact ⟨_, cap, rfl⟩
theorem row_bytes {w : World} {B g cap : Nat} {k : List UInt8} (h : w.ownsRow B 5 1 (.slice (some ⟨g, 0, none⟩) k.length cap) k.length (Lib.strCells (bytes k))) (src dst : TypeId) (hs : Tryz.prog.underlying src = some (.slice 5)) (hd : Tryz.prog.underlying dst = some .string) :
   (convert src dst (.slice (some ⟨g, 0, none⟩) k.length cap)).run Tryz.prog w = .ok (.string (bytes k)) w := by
 refine run_convert_bytes_back w src dst 5 ⟨g, 0, none⟩ cap k hs Tryz.underlying5 hd (fun j hj => ?_)
 have hadd : (⟨g, 0, none⟩ : Addr).add j = ⟨g, j, none⟩ := by unfold Addr.add; split <;> simp_all
 rw [hadd, h.cellAt j (by omega)]
 simp [Lib.strCells, bytes, hj]
theorem CM.fixed {B : Nat} {w : World} {cb mb g cap : Nat} {S : ByteArray} {n : Nat} {rv : Value} {last : Int} {l : List W} {v : W} {k : List UInt8} (h : CM B w cb mb S n (.slice (some ⟨g, 0, none⟩) (l ++ [v]).length cap) last rv (l ++ [v]) k) (hk : v.kind = 1) :
   CM B (w.setCell ⟨g, l.length * 3 + 1, none⟩ (.string (bytes k))) cb mb S n (.slice (some ⟨g, 0, none⟩) (l ++ [v]).length cap) last rv (l ++ [{ v with text := k }]) k := by
 have hgc : g ≠ cb := h.w_cb rfl
 have hgm : mb ≠ g := h.w_m rfl
 have hlen : (l ++ [{ v with text := k }]).length = (l ++ [v]).length := by simp
 refine ⟨h.box.kept (Below.heap_setCell _ _ _ _ (fun e => hgc e.symm)) (by simp [World.setCell]), h.ty.set _ _, ?_, ownsRow_kept h.row (fun c hc => Below.heap_setCell _ _ _ _ (fun e => h.w_r rfl hc e.symm)), ownsMap_keep h.map (Below.heap_setCell _ _ _ _ hgm), h.cb0, h.mb0⟩
 have := (h.words.stored (l.length * 3 + 1) (.string (bytes k))).1
 rw [hlen]
 have e : (wflat (l ++ [v])).set (l.length * 3 + 1) (.string (bytes k)) = wflat (l ++ [{ v with text := k }]) := by
   rw [wflat_snoc, wflat_snoc, List.set_append_right _ _ (by rw [wflat_len]; omega), wflat_len, Nat.add_sub_cancel_left]
   simp
 rw [e] at this
 exact this
set_option maxRecDepth 100000 in
set_option maxHeartbeats 1000000 in
theorem close_calls {B : Nat} {w : World} {cb mb : Nat} {S : ByteArray} {n : Nat} {wv rv : Value} {last : Int} {vs : List W} {k : List UInt8} (h : CM B w cb mb S n wv last rv vs k) (hl : vs.length ≤ 1048576) (hk : ∀ v, vs.getLast? = some v → v.kind = 1 → k ≠ []) :
   Calls Tryz.prog 53 #[.pointer (some ⟨cb, 0, none⟩)] w fun e w' => e = .returned (.tuple #[]) ∧ CM B w' cb mb S n wv last rv (fixW vs k) k ∧ Below B w w' := by
 obtain ⟨A, cap, rfl⟩ := row_forms h.words
 obtain ⟨c0, c1, c2, c3, c4, c5, cf, clt⟩ := h.cells
 have H := hid h
 rcases List.eq_nil_or_concat vs with rfl | ⟨l, v, rfl⟩
 · clear hk h hl
   go_enter Tryz.func53, Tryz.ntmps53
   go_wp2_with fail
   refine bodyPost_end (results_none rfl _ _ _) rfl ?_
   exact ⟨rfl, H.out, Below.refl _ _⟩
 · rw [List.concat_eq_append] at *
   have hlen : (l ++ [v]).length = l.length + 1 := by simp
   rw [hlen] at hl c2
   obtain ⟨g, rfl⟩ : ∃ g, A = some ⟨g, 0, none⟩ := by
     rcases h.words.2 with ⟨e, h0⟩ | ⟨g, cap', cur, e, _⟩
     · rw [hlen] at h0; omega
     · cases e; exact ⟨g, rfl⟩
   have hcells : ∀ (j : Nat) (c : Value), (wcells v)[j]? = some c → w.cell? ⟨g, l.length * 3 + j, none⟩ = some c := fun j c hc => by
     have hj := (Array.getElem?_eq_some_iff.1 hc).1
     rw [h.words.cellAt _ (by rw [hlen]; simp at hj; omega)]
     exact wflat_at _ _ v (by simp) j c hc
   have k0 := hcells 0 (.int .i64 v.kind) rfl
   have k1 := hcells 1 (.string (bytes v.text)) rfl
   rw [Nat.add_zero] at k0
   have hw : wrap64 (l.length : Int) = l.length := wrap_nat (by omega)
   have i0 : (0 : Int) ≤ (l.length : Int) := Int.natCast_nonneg _
   have i1 : (l.length : Int) < (l.length : Int) + 1 := Int.lt_succ _
   have hgf : ∀ o, w.frozen? ⟨g, o, none⟩ = false := fun o => h.words.frozenAt o
   have hgl : g < w.heap.size := (ownsRow_lt h.words g rfl).2
   have hge : B ≤ g := (ownsRow_lt h.words g rfl).1
   have hgc : ¬ g = cb := h.w_cb rfl
   have hgc' : ¬ cb = g := fun e => hgc e.symm
   by_cases h1 : v.kind = 1
   · have d1 : (v.kind == 1) = true := by simp [h1]
     have hkn := hk v (by simp) h1
     obtain ⟨A2, cap2, rfl⟩ := row_forms h.row
     obtain ⟨g2, rfl⟩ : ∃ g, A2 = some ⟨g, 0, none⟩ := by
       rcases h.row.2 with ⟨e, h0⟩ | ⟨g, cap', cur, e, _⟩
       · exact absurd (List.length_eq_zero_iff.1 h0) hkn
       · cases e; exact ⟨g, rfl⟩
     have HC := hid (row_bytes h.row 99 9 Tryz.underlying99 Tryz.underlying9)
     have hcv := (row_bytes (w := w.drew) h.row 99 9 Tryz.underlying99 Tryz.underlying9)
     have HF := hid (show fixW (l ++ [v]) k = l ++ [{ v with text := k }] from by rw [fixW_snoc, if_pos h1])
     have HN1 := hid h1
     clear hk h hcells h1 hkn
     go_enter Tryz.func53, Tryz.ntmps53
     go_wp2_with fail
     go_region
     refine bodyPost_end (results_none rfl _ _ _) rfl ?_
     rw [HF.out]
     exact ⟨rfl, (CM.fixed H.out HN1.out).later (Below.refl _ _).drew, ((Below.refl B w).setCell (p := ⟨g, l.length * 3 + 1, none⟩) hge _).drew⟩
   · have d1 : (v.kind == 1) = false := by simp [h1]
     have HF := hid (show fixW (l ++ [v]) k = l ++ [v] from by rw [fixW_snoc, if_neg h1])
     clear hk h hcells h1
     go_enter Tryz.func53, Tryz.ntmps53
     go_wp2_with fail
     refine bodyPost_end (results_none rfl _ _ _) rfl ?_
     exact ⟨rfl, by rw [HF.out]; exact H.out, Below.refl _ _⟩
end Pz
end Go.Proofs.YtpfkhdlnjefikaaGreatDoor
