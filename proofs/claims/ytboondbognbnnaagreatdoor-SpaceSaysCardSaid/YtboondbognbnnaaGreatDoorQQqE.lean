/- Package print: verb, and noun of a number or a name. Package print: nouns, kind by kind (printed by mkph3.py). Package print: noun of a verb between two nouns (printed by mkph4.py). Package print: noun of pick (printed by mkph5.py). -/
import Derived.Test.YtboondbognbnnaaGreatDoorQQqD
import Derived.Deep.RegionHeld2
import Derived.StillTailTactics
import Derived.Handy
set_option linter.unusedVariables false
set_option linter.unusedSimpArgs false
namespace Go.Proofs.YtboondbognbnnaaGreatDoor
open Go.RowKit
/-- a drawn region whose first n operations only read, the rest in one forced order -/
theorem still_tailP {P : Program} {id : Nat} {Q : Exit → Act → World → Prop} {a : Act} {w : World} {l : List Oper} (n : Nat) (hm : P.follows .mixedOrders = true) (hB : Region.lexTailB .any l.toArray n = true)
    (h : wpStill P l.toArray w.drew (fun a' => wpList P l.toArray Q (l.drop n) a' w.drew) (l.take n) a) : (Code.region id l.toArray true).wp P Q a w := wp_region_still_tail n hm hB h
theorem bcellP {W w1 : World} (hb : Below W.heap.size W w1) : (∀ b o, b < W.heap.size → w1.cell? ⟨b, o, none⟩ = W.cell? ⟨b, o, none⟩) ∧ (∀ b o, b < W.heap.size → w1.frozen? ⟨b, o, none⟩ = W.frozen? ⟨b, o, none⟩) :=
  ⟨fun b o h => hb.cell (p := ⟨b, o, none⟩) h, fun b o h => hb.frozen (p := ⟨b, o, none⟩) h⟩
theorem Done.drew {B b : Nat} {l acc : List UInt8} {w w1 : World} (D : Done B b l acc w w1) (hB : B ≤ w.heap.size) : Done B b l acc w w1.drew := D.later hB (Below.drew (Below.refl _ _))
theorem verb1_enter (a : Array Value) (w : World) : (callFunc 144 a).run Tryz.prog w = .ok (.enter 144 a) w := enters_of Tryz.func144 (by kernel_rfl) rfl a w
theorem noun1_enter (a : Array Value) (w : World) : (callFunc 118 a).run Tryz.prog w = .ok (.enter 118 a) w := enters_of Tryz.func118 (by kernel_rfl) rfl a w
set_option maxRecDepth 100000 in
set_option maxHeartbeats 4000000 in
/-- verb's closure: the first kid's phrase -/
theorem clo_verb {B b p o g h : Nat} {l : List UInt8} {t v : T} {L : List T} {x : TV} {w : World} (hl : t.kids = v :: L) (hv : VAt v) (hg : Box1 g (ptr b 0) 111 w) (hh : Box1 h (ptr p o) 75 w) (ht : TAt B t p o x w) (hW : Wr B b l w) (hle : l.length ≤ 1048576) (hB : B ≤ w.heap.size) (hT : Tabs B w) :
    Calls Tryz.prog 144 #[ptr g 0, ptr h 0] w (Puts B b l (Pp.rn (Pp.phrase v)) w) := by
  have c0 := hg.cell
  have c1 := hh.cell
  obtain ⟨q, r, cap, c5, hcap, hkid⟩ := ht.kids hl
  obtain ⟨y, hy⟩ := hkid 0 v (by rw [hl]; rfl)
  rw [Nat.zero_mul, Nat.add_zero] at hy
  have hlen : (0 : Int) < ((L.length + 1 : Nat) : Int) := by omega
  have D0 := Lib.hid ((Done.start hW hle).drew hB)
  have HC := Lib.hid (fun (w1 : World) (D : Done B b l [] w w1) => hv.at_ hy hB hT D)
  clear hg hh ht hW hle hB hT hkid hy
  go_enter Tryz.func144, Tryz.ntmps144
  go_wp2_with fail
  refine still_tailP 6 (by kernel_rfl) (by kernel_rfl) ?_
  simp only [List.take_succ_cons, List.take_zero, List.drop_succ_cons, List.drop_zero]
  repeat still_step
  refine wpStill_nil ?_
  go_wp2_with fail
  refine (HC.out _ D0.out).mono ?_
  intro e w1 hp
  rcases hp.two with ⟨rfl, h⟩ | ⟨ps, rfl, h⟩
  rotate_left
  · exact ⟨rfl, (D0.out.dead h).to ⟨[], by simp⟩⟩
  have D1 := Lib.hid (D0.out.then h)
  clear hp h
  go_wp2_with fail
  exact bodyPost_end (results_none rfl _ _ _) rfl (D1.out.to (by simp))
/-- verb, of a noun -/
def VbAt (t : T) (out : List UInt8) : Prop := PutsAt 116 t out
set_option maxRecDepth 100000 in
set_option maxHeartbeats 4000000 in
theorem verb_all {t v : T} {L : List T} (hb : BrAt t) (hl : t.kids = v :: L) (hv : VAt v) : VbAt t (Pp.rn (Pp.brk (brOf t) (Pp.phrase v))) := by
  intro B b p o x l w ht hW hle hB hT
  rw [rn_brk]
  obtain ⟨out, hO⟩ : ∃ out, out = (if brOf t then 40 :: Pp.rn (Pp.phrase v) ++ [41] else Pp.rn (Pp.phrase v)) := ⟨_, rfl⟩
  rw [← hO]
  have HO := Lib.hid hO
  clear hO
  have hA1 := (Below.refl w.heap.size w).alloc (Nat.le_refl _) (.cells #[ptr b 0] 111)
  have hA2 := hA1.alloc (by simp) (.cells #[ptr p o] 75)
  have g1 := (Box1.new w (ptr b 0) 111).later ((Below.refl _ _).alloc (Nat.le_refl _) (.cells #[ptr p o] 75))
  have g2 := Box1.new (w.alloc (.cells #[ptr b 0] 111)) (ptr p o) 75
  rw [show (w.alloc (.cells #[ptr b 0] 111)).heap.size = w.heap.size + 1 by simp] at g2
  have D0 := (Done.start hW hle).later hB hA2
  go_enter Tryz.func116, Tryz.ntmps116
  go_upto_region 1 with fail
  generalize (w.alloc _).alloc _ = w0 at *
  have G1 := Lib.hid g1
  have G2 := Lib.hid g2
  have D1 := Lib.hid D0
  have HB := Lib.hid hB
  have HT := Lib.hid hT
  have HTt := Lib.hid ht
  have c0 := g1.cell
  have c1 := g2.cell
  have z0 := g1.lt
  have z1 := g2.lt
  have HBr := Lib.hid (fun (w1 : World) (h : Below B w w1) => hb B p o x w1 (ht.below h) (Nat.le_trans hB h.size))
  clear ht hW hle hB hT hA1 hA2 g1 g2 D0
  refine wp_region_held_drew (S := (fun w' => w'.cell? ⟨w.heap.size, 0, none⟩ = some (ptr b 0) ∧ w'.cell? ⟨w.heap.size + 1, 0, none⟩ = some (ptr p o))) (by kernel_rfl) (by exact ⟨c0, c1⟩) (fun hHeld => ?_)
  refine wpAnyH_take (i := 0) (v := ?_) rfl (by kernel_rfl) (by kernel_rfl) (by kernel_rfl) (fun _ _ _ h => h) (Or.inl ⟨by rfl, ?_⟩) (by assumption) ?_
  rotate_left
  · intro w hSw
    (try dsimp only at hSw)
    go_simp
    try with_reducible rfl
  try simp only [Act.put, List.setIfInBounds_toArray, List.set_cons_zero, List.set_cons_succ]
  refine wpAnyH_take (i := 1) (v := ?_) rfl (by kernel_rfl) (by kernel_rfl) (by kernel_rfl) (fun _ _ _ h => h) (Or.inl ⟨by rfl, ?_⟩) (by assumption) ?_
  rotate_left
  · intro w hSw
    (try dsimp only at hSw)
    go_simp
    try with_reducible rfl
  try simp only [Act.put, List.setIfInBounds_toArray, List.set_cons_zero, List.set_cons_succ]
  refine wpAnyH_take (i := 3) (v := ?_) rfl (by kernel_rfl) (by kernel_rfl) (by kernel_rfl) (fun _ _ _ h => h) (Or.inl ⟨by rfl, ?_⟩) (by assumption) ?_
  rotate_left
  · intro w hSw
    (try dsimp only at hSw)
    go_simp
    try with_reducible rfl
  try simp only [Act.put, List.setIfInBounds_toArray, List.set_cons_zero, List.set_cons_succ]
  refine wpAnyH_ready (rs := [2]) (by kernel_rfl) (by simp) ?_
  refine AllReadyH.cons rfl (fun K hK => ?_) AllReadyH.nil
  go_simp
  have HD := Lib.hid (Below.drew (Below.refl w0.heap.size w0))
  have D2 := Lib.hid (D1.out.later HB.out HD.out)
  refine (HBr.out _ D2.out.below).mono ?_
  rintro e w1 ⟨rfl, h1⟩
  have HD1 := Lib.hid (HD.out.trans h1)
  have D3 := Lib.hid (D1.out.later HB.out HD1.out)
  have G3 := Lib.hid (G1.out.later HD1.out)
  have G4 := Lib.hid (G2.out.later HD1.out)
  clear h1
  refine hK.out _ _ ?_ (fun hHeld => ?_)
  · exact ⟨G3.out.cell, G4.out.cell⟩
  clear hK K
  try simp only [Act.put, List.setIfInBounds_toArray, List.set_cons_zero, List.set_cons_succ]
  refine wpAnyH_ready (rs := [4]) (by kernel_rfl) (by simp) ?_
  refine AllReadyH.cons rfl (fun K hK => ?_) AllReadyH.nil
  go_simp
  have HQ := Lib.hid (between_at (brOf t) D3.out HB.out verb1_enter (cap := #[ptr w.heap.size 0, ptr (w.heap.size + 1) 0]) (fun l' w' hbl ho hW' hl' => clo_verb hl hv (G3.out.other ho (by decide) (by decide)) (G4.out.other ho (by decide) (by decide)) (HTt.out.below (D3.out.below.trans hbl)) hW' hl' (Nat.le_trans HB.out (Nat.le_trans D3.out.below.size hbl.size)) (HT.out.below (D3.out.below.trans hbl))))
  rw [← HO.out] at HQ
  refine HQ.out.mono ?_
  intro e w2 hp
  rcases hp.two with ⟨rfl, h⟩ | ⟨ps, rfl, h⟩
  rotate_left
  · exact ⟨rfl, (D3.out.dead h).to ⟨[], by simp⟩⟩
  have D4 := Lib.hid (D3.out.then h)
  have G5 := Lib.hid (G3.out.other h.other (by decide) (by decide))
  have G6 := Lib.hid (G4.out.other h.other (by decide) (by decide))
  clear hp h
  refine hK.out _ _ ?_ (fun hHeld => ?_)
  · exact ⟨G5.out.cell, G6.out.cell⟩
  clear hK
  try simp only [Act.put, List.setIfInBounds_toArray, List.set_cons_zero, List.set_cons_succ]
  refine wpAnyH_done (by kernel_rfl) ?_ _
  go_wp2_with fail
  exact bodyPost_end (results_none rfl _ _ _) rfl (D4.out.to (List.nil_append _).symm)
end Go.Proofs.YtboondbognbnnaaGreatDoor

namespace Go.Proofs.YtboondbognbnnaaGreatDoor
open Go.RowKit
set_option maxRecDepth 100000 in
set_option maxHeartbeats 4000000 in
theorem no_num {sh a : List Int} (hr : ∀ n ∈ a, Pz.inRange n = true) : NAt (.mk 1 Pp.E 0 sh a []) := by
  intro B b p o x l w ht hW hl hB hT
  have htot : Pp.rn (Pp.noun (.mk 1 Pp.E 0 sh a [])) = Pp.nums false a := by rw [Pp.n_num]; simp [Pp.rn, Pp.Pc.bytes]
  rw [htot]
  have c0 := ht.kind
  simp only [T.kind_mk] at c0
  have HC := Lib.hid (fun (w1 : World) (h : Below B w w1) => And.intro ((h.cell (p := ⟨p, o, none⟩) ht.lt).trans c0) (And.intro ((h.cell (p := ⟨p, o + 3, none⟩) ht.lt).trans ht.at_.c3) ((h.cell (p := ⟨p, o + 4, none⟩) ht.lt).trans ht.at_.c4)))
  have HA := Lib.hid (fun (w1 : World) (h : Below B w w1) => (show Ints w B x.aa x.al a from ht.rep.atoms).keep (Keeps.of_below h (Nat.le_refl _)))
  have HX := Lib.hid ht.rep.wee.a1
  have hA1 := (Below.refl w.heap.size w).alloc (Nat.le_refl _) (.cells #[ptr b 0] 111)
  have g1 := Box1.new w (ptr b 0) 111
  have D0 := (Done.start hW hl).later hB hA1
  have HB := Lib.hid hB
  have HT := Lib.hid hT
  have HTt := Lib.hid ht
  clear hA1 ht hW hl hB hT htot c0
  go_enter Tryz.func79, Tryz.ntmps79
  go_upto_region 1 with fail
  generalize w.alloc _ = w0 at *
  have G0 := Lib.hid g1
  have z0 := g1.cell
  obtain ⟨d0, d3, d4⟩ := HC.out _ D0.below
  replace D0 := Lib.hid D0
  clear g1
  go_wp2_with fail
  replace D0 := Lib.hid (D0.out.drew HB.out)
  refine still_tailP 5 (by kernel_rfl) (by kernel_rfl) ?_
  simp only [List.take_succ_cons, List.take_zero, List.drop_succ_cons, List.drop_zero]
  repeat still_step
  refine wpStill_nil ?_
  go_wp2_with fail
  refine (numbers_calls false a _ _ _ _ _ _ D0.out.box D0.out.le (Nat.le_trans HB.out D0.out.below.size) (HT.out.below D0.out.below) (HA.out _ D0.out.below) hr HX.out).mono ?_
  intro e w1 hp
  rcases hp.two with ⟨rfl, h⟩ | ⟨ps, rfl, h⟩
  rotate_left
  · exact ⟨rfl, (D0.out.dead h).to ⟨[], by simp only [List.nil_append, List.cons_append, List.append_assoc, List.append_nil]⟩⟩
  have D1 := Lib.hid (D0.out.then h)
  clear hp h
  go_wp2_with fail
  exact bodyPost_end (results_none rfl _ _ _) rfl (D1.out.to (by simp only [List.nil_append, List.cons_append, List.append_assoc, List.append_nil]))
set_option maxRecDepth 100000 in
set_option maxHeartbeats 4000000 in
theorem no_nam {s : ByteArray} (hs : T.named s.data.toList 97 122 = true) : NAt (.mk 2 s 0 [] [] []) := by
  intro B b p o x l w ht hW hl hB hT
  have htot : Pp.rn (Pp.noun (.mk 2 s 0 [] [] [])) = s.data.toList := by rw [Pp.n_nam]; simp [Pp.rn, Pp.Pc.bytes, Pp.txt]
  rw [htot]
  have c0 := ht.kind
  have c1 := ht.text
  simp only [T.kind_mk, T.text_mk] at c0 c1
  have HC := Lib.hid (fun (w1 : World) (h : Below B w w1) => And.intro ((h.cell (p := ⟨p, o, none⟩) ht.lt).trans c0) ((h.cell (p := ⟨p, o + 1, none⟩) ht.lt).trans c1))
  have HS := Lib.hid (text_size (.inr (.inl hs)))
  have hA1 := (Below.refl w.heap.size w).alloc (Nat.le_refl _) (.cells #[ptr b 0] 111)
  have g1 := Box1.new w (ptr b 0) 111
  have D0 := (Done.start hW hl).later hB hA1
  have HB := Lib.hid hB
  have HT := Lib.hid hT
  have HTt := Lib.hid ht
  clear hA1 ht hW hl hB hT htot c0 c1
  go_enter Tryz.func79, Tryz.ntmps79
  go_upto_region 1 with fail
  generalize w.alloc _ = w0 at *
  have G0 := Lib.hid g1
  have z0 := g1.cell
  obtain ⟨d0, d1⟩ := HC.out _ D0.below
  replace D0 := Lib.hid D0
  clear g1
  go_wp2_with fail
  refine wp_region_held_drew (S := (fun w' => w'.cell? ⟨w.heap.size, 0, none⟩ = some (ptr b 0) ∧ w'.cell? ⟨p, o + 1, none⟩ = some (.string s))) (by kernel_rfl) (by exact ⟨z0, d1⟩) (fun hHeld => ?_)
  refine wpAnyH_take (i := 0) (v := ?_) rfl (by kernel_rfl) (by kernel_rfl) (by kernel_rfl) (fun _ _ _ h => h) (Or.inl ⟨by rfl, ?_⟩) (by assumption) ?_
  rotate_left
  · intro w hSw
    (try dsimp only at hSw)
    go_simp
    try with_reducible rfl
  try simp only [Act.put, List.setIfInBounds_toArray, List.set_cons_zero, List.set_cons_succ]
  refine wpAnyH_take (i := 1) (v := ?_) rfl (by kernel_rfl) (by kernel_rfl) (by kernel_rfl) (fun _ _ _ h => h) (Or.inl ⟨by rfl, ?_⟩) (by assumption) ?_
  rotate_left
  · intro w hSw
    (try dsimp only at hSw)
    go_simp
    try with_reducible rfl
  try simp only [Act.put, List.setIfInBounds_toArray, List.set_cons_zero, List.set_cons_succ]
  refine wpAnyH_take (i := 2) (v := ?_) rfl (by kernel_rfl) (by kernel_rfl) (by kernel_rfl) (fun _ _ _ h => h) (Or.inl ⟨by rfl, ?_⟩) (by assumption) ?_
  rotate_left
  · intro w hSw
    (try dsimp only at hSw)
    go_simp
    try with_reducible rfl
  try simp only [Act.put, List.setIfInBounds_toArray, List.set_cons_zero, List.set_cons_succ]
  refine wpAnyH_take (i := 3) (v := ?_) rfl (by kernel_rfl) (by kernel_rfl) (by kernel_rfl) (fun _ _ _ h => h) (Or.inl ⟨by rfl, ?_⟩) (by assumption) ?_
  rotate_left
  · intro w hSw
    (try dsimp only at hSw)
    go_simp
    try with_reducible rfl
  try simp only [Act.put, List.setIfInBounds_toArray, List.set_cons_zero, List.set_cons_succ]
  refine wpAnyH_take (i := 4) (v := ?_) rfl (by kernel_rfl) (by kernel_rfl) (by kernel_rfl) (fun _ _ _ h => h) (Or.inl ⟨by rfl, ?_⟩) (by assumption) ?_
  rotate_left
  · intro w hSw
    (try dsimp only at hSw)
    go_simp
    try with_reducible rfl
  try simp only [Act.put, List.setIfInBounds_toArray, List.set_cons_zero, List.set_cons_succ]
  refine wpAnyH_ready (rs := [5]) (by kernel_rfl) (by simp) ?_
  refine AllReadyH.cons rfl (fun K hK => ?_) AllReadyH.nil
  replace D0 := Lib.hid (D0.out.drew HB.out)
  replace G0 := Lib.hid (G0.out.later (Below.drew (Below.refl _ _)))
  go_simp
  have hA := (Below.refl w0.drew.heap.size w0.drew).alloc (Nat.le_refl _) (.cells #[.string s] 9)
  refine hK.out _ _ ?_ (fun hHeld => ?_)
  · exact ⟨(G0.out.later hA).cell, (HC.out _ (D0.out.later HB.out hA).below).2⟩
  clear hK K hA
  try simp only [Act.put, List.setIfInBounds_toArray, List.set_cons_zero, List.set_cons_succ]
  refine wpAnyH_ready (rs := [6]) (by kernel_rfl) (by simp) ?_
  refine AllReadyH.cons rfl (fun K hK => ?_) AllReadyH.nil
  go_simp
  refine (D0.out.put HB.out s HS.out).mono ?_
  intro e w1 hp
  rcases hp.two with ⟨rfl, h⟩ | ⟨ps, rfl, h⟩
  rotate_left
  · exact ⟨rfl, (D0.out.dead h).to ⟨[], by simp only [List.nil_append, List.cons_append, List.append_assoc, List.append_nil]⟩⟩
  have D1 := Lib.hid (D0.out.then h)
  have G1 := Lib.hid (G0.out.other h.other (by decide) (by decide))
  clear hp h
  refine hK.out _ _ ?_ (fun hHeld => ?_)
  · exact ⟨G1.out.cell, (HC.out _ D1.out.below).2⟩
  clear hK
  try simp only [Act.put, List.setIfInBounds_toArray, List.set_cons_zero, List.set_cons_succ]
  refine wpAnyH_done (by kernel_rfl) ?_ _
  go_wp2_with fail
  exact bodyPost_end (results_none rfl _ _ _) rfl (D1.out.to (by simp only [List.nil_append, List.cons_append, List.append_assoc, List.append_nil]))
set_option maxRecDepth 100000 in
set_option maxHeartbeats 4000000 in
theorem no_mon {v u : T} (h0 : VbAt (Pz.made 3 [v, u]) (Pp.rn (Pp.brk (brOf (Pz.made 3 [v, u])) (Pp.phrase v)))) (h1 : NAt u) : NAt (Pz.made 3 [v, u]) := by
  intro B b p o x l w ht hW hl hB hT
  have hbr : brOf (Pz.made 3 [v, u]) = (Pp.ends v && Pp.first u) := by simp [brOf, Pp.bracketed, Pz.made, Pp.endsAt, Pp.firstAt_eq]
  obtain ⟨out, hO⟩ : ∃ out, out = Pp.rn (Pp.brk (brOf (Pz.made 3 [v, u])) (Pp.phrase v)) := ⟨_, rfl⟩
  have htot : Pp.rn (Pp.noun (Pz.made 3 [v, u])) = out ++ ([32] ++ Pp.rn (Pp.noun u)) := by rw [hO, Pp.n_mon, hbr, Pp.rn_append]; rfl
  rw [htot]
  rw [← hO] at h0
  have c0 := ht.kind
  obtain ⟨q, r, cap, c5, hcap, hkid⟩ := ht.kids (u := v) (l := [u]) rfl
  obtain ⟨y1, hy1⟩ := hkid 1 u rfl
  simp only [List.length_cons, List.length_nil, Nat.zero_add, Nat.reduceAdd] at c5 hcap
  simp only [Pz.made, T.kind_mk] at c0
  have HC := Lib.hid (fun (w1 : World) (h : Below B w w1) => And.intro ((h.cell (p := ⟨p, o, none⟩) ht.lt).trans c0) ((h.cell (p := ⟨p, o + 5, none⟩) ht.lt).trans c5))
  have HY1 := Lib.hid hy1
  have hA1 := (Below.refl w.heap.size w).alloc (Nat.le_refl _) (.cells #[ptr b 0] 111)
  have g1 := Box1.new w (ptr b 0) 111
  have D0 := (Done.start hW hl).later hB hA1
  have HB := Lib.hid hB
  have HT := Lib.hid hT
  have HTt := Lib.hid ht
  clear hA1 ht hW hl hB hT htot hkid hy1 hbr hO c0 c5
  go_enter Tryz.func79, Tryz.ntmps79
  go_upto_region 1 with fail
  generalize w.alloc _ = w0 at *
  have G0 := Lib.hid g1
  have z0 := g1.cell
  obtain ⟨d0, d5⟩ := HC.out _ D0.below
  replace D0 := Lib.hid D0
  clear g1
  go_wp2_with fail
  refine (PutsAt.at_ h0 HTt.out HB.out HT.out D0.out).mono ?_
  intro e w1 hp
  rcases hp.two with ⟨rfl, h⟩ | ⟨ps, rfl, h⟩
  rotate_left
  · exact ⟨rfl, (D0.out.dead h).to ⟨[32] ++ (Pp.rn (Pp.noun u)), by simp only [List.nil_append, List.cons_append, List.append_assoc, List.append_nil]⟩⟩
  have D1 := Lib.hid (D0.out.then h)
  have G1 := Lib.hid (G0.out.other h.other (by decide) (by decide))
  have z1 := G1.out.cell
  obtain ⟨d0, d5⟩ := HC.out _ D1.out.below
  clear hp h
  go_wp2_with fail
  refine (D1.out.put HB.out ⟨#[32]⟩ (by decide)).mono ?_
  intro e w2 hp
  rcases hp.two with ⟨rfl, h⟩ | ⟨ps, rfl, h⟩
  rotate_left
  · exact ⟨rfl, (D1.out.dead h).to ⟨Pp.rn (Pp.noun u), by simp only [List.nil_append, List.cons_append, List.append_assoc, List.append_nil]⟩⟩
  have D2 := Lib.hid (D1.out.then h)
  have G2 := Lib.hid (G1.out.other h.other (by decide) (by decide))
  have z2 := G2.out.cell
  obtain ⟨d0, d5⟩ := HC.out _ D2.out.below
  clear hp h
  go_wp2_with fail
  replace D2 := Lib.hid (D2.out.drew HB.out)
  refine still_tailP 6 (by kernel_rfl) (by kernel_rfl) ?_
  simp only [List.take_succ_cons, List.take_zero, List.drop_succ_cons, List.drop_zero]
  repeat still_step
  refine wpStill_nil ?_
  go_wp2_with fail
  refine (h1.at_ HY1.out HB.out HT.out D2.out).mono ?_
  intro e w3 hp
  rcases hp.two with ⟨rfl, h⟩ | ⟨ps, rfl, h⟩
  rotate_left
  · exact ⟨rfl, (D2.out.dead h).to ⟨[], by simp only [List.nil_append, List.cons_append, List.append_assoc, List.append_nil]⟩⟩
  have D3 := Lib.hid (D2.out.then h)
  clear hp h
  go_wp2_with fail
  exact bodyPost_end (results_none rfl _ _ _) rfl (D3.out.to (by simp only [List.nil_append, List.cons_append, List.append_assoc, List.append_nil]))
end Go.Proofs.YtboondbognbnnaaGreatDoor

namespace Go.Proofs.YtboondbognbnnaaGreatDoor
open Go.RowKit
structure Shut (p : Prop) : Prop where
  opened : p
/-- a step of a region that only reads, the goal hidden (else a skipped operation's goal is unfolded on and on) -/
theorem stillH_step {P : Program} {ops : Array Oper} {w : World} {Q : Act → Prop} {a : Act} {o : Oper} {rest : List Oper} (h : ∀ K : Act → Prop, (∀ a, Shut (wpStill P ops w Q rest a) → K a) → if Region.wanted o (yielded ops a.tmps) then o.still P a w K else K (a.put o.dst undef)) : Shut (wpStill P ops w Q (o :: rest) a) :=
  ⟨wpStill_step fun K hK => h K fun a ha => hK a ha.opened⟩
theorem stillH_nil {P : Program} {ops : Array Oper} {w : World} {Q : Act → Prop} {a : Act} (h : Q a) : Shut (wpStill P ops w Q [] a) := ⟨wpStill_nil h⟩
theorem still_tailH {P : Program} {id : Nat} {Q : Exit → Act → World → Prop} {a : Act} {w : World} {l : List Oper} (n : Nat) (hm : P.follows .mixedOrders = true) (hB : Region.lexTailB .any l.toArray n = true)
    (h : Shut (wpStill P l.toArray w.drew (fun a' => wpList P l.toArray Q (l.drop n) a' w.drew) (l.take n) a)) : (Code.region id l.toArray true).wp P Q a w := still_tailP n hm hB h.opened
set_option maxRecDepth 100000 in
set_option maxHeartbeats 400000 in
theorem no_dy {v x1 x2 : T} (h0 : VbAt (Pz.made 4 [v, x1, x2]) (Pp.rn (Pp.brk (brOf (Pz.made 4 [v, x1, x2])) (Pp.phrase v)))) (h1 : NAt x1) (h2 : NAt x2) : NAt (Pz.made 4 [v, x1, x2]) := by
  intro B b p o x l w ht hW hl hB hT
  have hbr : brOf (Pz.made 4 [v, x1, x2]) = (Pp.ends v && Pp.first x2 || Pp.begins v && x1.kind == 1) := by simp [brOf, Pp.bracketed, Pz.made, Pp.endsAt, Pp.firstAt_eq, Pp.beginsAt_eq, Pp.kindAt]
  obtain ⟨out, hO⟩ : ∃ out, out = Pp.rn (Pp.brk (brOf (Pz.made 4 [v, x1, x2])) (Pp.phrase v)) := ⟨_, rfl⟩
  obtain ⟨left, hL⟩ : ∃ left, left = (if (x1.kind == 3 || x1.kind == 4) then 40 :: Pp.rn (Pp.noun x1) ++ [41] else Pp.rn (Pp.noun x1)) := ⟨_, rfl⟩
  have htot : Pp.rn (Pp.noun (Pz.made 4 [v, x1, x2])) = left ++ ([32] ++ (out ++ ([32] ++ Pp.rn (Pp.noun x2)))) := by
    rw [hO, hL, ← rn_brk, Pp.n_dy, hbr]; simp only [Pp.rn_append, Pp.rn, Pp.Pc.bytes, List.append_assoc]
  rw [htot]
  rw [← hO] at h0
  have HL := Lib.hid hL
  have c0 := ht.kind
  obtain ⟨q, r, cap, c5, hcap, hkid⟩ := ht.kids (u := v) (l := [x1, x2]) rfl
  obtain ⟨y1, hy1⟩ := hkid 1 x1 rfl
  obtain ⟨y2, hy2⟩ := hkid 2 x2 rfl
  simp only [List.length_cons, List.length_nil, Nat.zero_add, Nat.reduceAdd] at c5 hcap
  simp only [Pz.made, T.kind_mk] at c0
  have HC := Lib.hid (fun (w1 : World) (h : Below B w w1) => And.intro ((h.cell (p := ⟨p, o, none⟩) ht.lt).trans c0) ((h.cell (p := ⟨p, o + 5, none⟩) ht.lt).trans c5))
  rw [Nat.one_mul] at hy1
  have HC1 := Lib.hid (fun (w1 : World) (h : Below B w w1) => (h.cell (p := ⟨q, r + 6, none⟩) hy1.lt).trans hy1.kind)
  have HY1 := Lib.hid hy1
  have HY2 := Lib.hid hy2
  have hA1 := (Below.refl w.heap.size w).alloc (Nat.le_refl _) (.cells #[ptr b 0] 111)
  have g1 := Box1.new w (ptr b 0) 111
  have D0 := (Done.start hW hl).later hB hA1
  have HB := Lib.hid hB
  have HT := Lib.hid hT
  have HTt := Lib.hid ht
  clear hA1 ht hW hl hB hT htot hkid hy1 hy2 hbr hO hL c0 c5
  go_enter Tryz.func79, Tryz.ntmps79
  go_upto_region 1 with fail
  generalize w.alloc _ = w0 at *
  have G0 := Lib.hid g1
  have z0 := g1.cell
  obtain ⟨d0, d5⟩ := HC.out _ D0.below
  replace D0 := Lib.hid D0
  clear g1
  go_upto_region 12 with fail
  have hA := (Below.refl w0.heap.size w0).alloc (Nat.le_refl _) (.cells #[ptr q (r + 6)] 75)
  have g2 := Box1.new w0 (ptr q (r + 6)) 75
  have G0 := Lib.hid (G0.out.later hA)
  have D0 := D0.out.later HB.out hA
  generalize w0.alloc _ = w1 at *
  have K0 := Lib.hid g2
  have z0 := G0.out.cell
  have y0 := g2.cell
  have k0 := HC1.out _ D0.below
  obtain ⟨d0, d5⟩ := HC.out _ D0.below
  replace D0 := Lib.hid (D0.drew HB.out)
  replace G0 := Lib.hid (G0.out.later (Below.drew (Below.refl _ _)))
  replace K0 := Lib.hid (K0.out.later (Below.drew (Below.refl _ _)))
  clear hA g2
  obtain ⟨so, hso⟩ : ∃ so, so = (x1.kind == 3 || x1.kind == 4) := ⟨_, rfl⟩
  have HQ := Lib.hid (between_at so D0.out HB.out noun1_enter (cap := #[ptr w.heap.size 0, ptr w0.heap.size 0]) (fun l' w' hb ho hW' hl' => clo_noun h1 (G0.out.other ho (by decide) (by decide)) (K0.out.other ho (by decide) (by decide)) (HY1.out.below (D0.out.below.trans hb)) hW' hl' (Nat.le_trans HB.out (Nat.le_trans D0.out.below.size hb.size)) (HT.out.below (D0.out.below.trans hb))))
  rw [hso, ← HL.out, ← hso] at HQ
  clear HL
  have hq : (x1.kind = 3 ∧ so = true) ∨ (¬ x1.kind = 3 ∧ x1.kind = 4 ∧ so = true) ∨ (¬ x1.kind = 3 ∧ ¬ x1.kind = 4 ∧ so = false) := by
    rw [hso]; by_cases e3 : x1.kind = 3 <;> by_cases e4 : x1.kind = 4 <;> simp_all
  clear hso
  generalize x1.kind = kk at *
  have HQ2 : Hid (∃ s, s = so) := Lib.hid ⟨_, rfl⟩
  have Post := fun (K : Prop) (h : K) => h
  have hq : (kk = 3 ∧ so = true) ∨ (kk = 4 ∧ so = true) ∨ ((kk == 3) = false ∧ (kk == 4) = false ∧ so = false) := by
    rcases hq with ⟨a, b⟩ | ⟨_, a, b⟩ | ⟨a, b, c⟩
    · exact .inl ⟨a, b⟩
    · exact .inr (.inl ⟨a, b⟩)
    · exact .inr (.inr ⟨by simpa using a, by simpa using b, c⟩)
  rcases hq with ⟨rfl, rfl⟩ | ⟨rfl, rfl⟩ | ⟨n3, n4, rfl⟩
  all_goals
    refine still_tailH 14 (by kernel_rfl) (by kernel_rfl) ?_
    simp only [List.take_succ_cons, List.take_zero, List.drop_succ_cons, List.drop_zero]
    refine stillH_step (fun K hK => ?_)
    go_simp
    refine hK _ ?_
    clear hK K
    refine stillH_step (fun K hK => ?_)
    go_simp
    refine hK _ ?_
    clear hK K
    refine stillH_step (fun K hK => ?_)
    go_simp
    refine hK _ ?_
    clear hK K
    refine stillH_step (fun K hK => ?_)
    go_simp
    refine hK _ ?_
    clear hK K
    refine stillH_step (fun K hK => ?_)
    go_simp
    refine hK _ ?_
    clear hK K
    refine stillH_step (fun K hK => ?_)
    go_simp
    refine hK _ ?_
    clear hK K
    refine stillH_step (fun K hK => ?_)
    go_simp
    refine hK _ ?_
    clear hK K
    refine stillH_step (fun K hK => ?_)
    go_simp
    refine hK _ ?_
    clear hK K
    refine stillH_step (fun K hK => ?_)
    go_simp
    refine hK _ ?_
    clear hK K
    refine stillH_step (fun K hK => ?_)
    go_simp
    refine hK _ ?_
    clear hK K
    refine stillH_step (fun K hK => ?_)
    go_simp
    refine hK _ ?_
    clear hK K
    refine stillH_step (fun K hK => ?_)
    go_simp
    refine hK _ ?_
    clear hK K
    refine stillH_step (fun K hK => ?_)
    go_simp
    refine hK _ ?_
    clear hK K
    refine stillH_step (fun K hK => ?_)
    go_simp
    refine hK _ ?_
    clear hK K
    refine stillH_nil ?_
    go_wp2_with fail
    refine (HQ.out).mono ?_
    intro e w2 hp
    rcases hp.two with ⟨rfl, h⟩ | ⟨ps, rfl, h⟩
    rotate_left
    · exact ⟨rfl, (D0.out.dead h).to ⟨[32] ++ (out ++ ([32] ++ (Pp.rn (Pp.noun x2)))), by simp only [List.nil_append, List.cons_append, List.append_assoc, List.append_nil]⟩⟩
    have D1 := Lib.hid (D0.out.then h)
    have G1 := Lib.hid (G0.out.other h.other (by decide) (by decide))
    have z1 := G1.out.cell
    obtain ⟨d0, d5⟩ := HC.out _ D1.out.below
    clear hp h
    go_wp2_with fail
    refine (D1.out.put HB.out ⟨#[32]⟩ (by decide)).mono ?_
    intro e w3 hp
    rcases hp.two with ⟨rfl, h⟩ | ⟨ps, rfl, h⟩
    rotate_left
    · exact ⟨rfl, (D1.out.dead h).to ⟨out ++ ([32] ++ (Pp.rn (Pp.noun x2))), by simp only [List.nil_append, List.cons_append, List.append_assoc, List.append_nil]⟩⟩
    have D2 := Lib.hid (D1.out.then h)
    have G2 := Lib.hid (G1.out.other h.other (by decide) (by decide))
    have z2 := G2.out.cell
    obtain ⟨d0, d5⟩ := HC.out _ D2.out.below
    clear hp h
    go_wp2_with fail
    refine (PutsAt.at_ h0 HTt.out HB.out HT.out D2.out).mono ?_
    intro e w4 hp
    rcases hp.two with ⟨rfl, h⟩ | ⟨ps, rfl, h⟩
    rotate_left
    · exact ⟨rfl, (D2.out.dead h).to ⟨[32] ++ (Pp.rn (Pp.noun x2)), by simp only [List.nil_append, List.cons_append, List.append_assoc, List.append_nil]⟩⟩
    have D3 := Lib.hid (D2.out.then h)
    have G3 := Lib.hid (G2.out.other h.other (by decide) (by decide))
    have z3 := G3.out.cell
    obtain ⟨d0, d5⟩ := HC.out _ D3.out.below
    clear hp h
    go_wp2_with fail
    refine (D3.out.put HB.out ⟨#[32]⟩ (by decide)).mono ?_
    intro e w5 hp
    rcases hp.two with ⟨rfl, h⟩ | ⟨ps, rfl, h⟩
    rotate_left
    · exact ⟨rfl, (D3.out.dead h).to ⟨Pp.rn (Pp.noun x2), by simp only [List.nil_append, List.cons_append, List.append_assoc, List.append_nil]⟩⟩
    have D4 := Lib.hid (D3.out.then h)
    have G4 := Lib.hid (G3.out.other h.other (by decide) (by decide))
    have z4 := G4.out.cell
    obtain ⟨d0, d5⟩ := HC.out _ D4.out.below
    clear hp h
    go_wp2_with fail
    replace D4 := Lib.hid (D4.out.drew HB.out)
    refine still_tailP 6 (by kernel_rfl) (by kernel_rfl) ?_
    simp only [List.take_succ_cons, List.take_zero, List.drop_succ_cons, List.drop_zero]
    repeat still_step
    refine wpStill_nil ?_
    go_wp2_with fail
    refine (h2.at_ HY2.out HB.out HT.out D4.out).mono ?_
    intro e w6 hp
    rcases hp.two with ⟨rfl, h⟩ | ⟨ps, rfl, h⟩
    rotate_left
    · exact ⟨rfl, (D4.out.dead h).to ⟨[], by simp only [List.nil_append, List.cons_append, List.append_assoc, List.append_nil]⟩⟩
    have D5 := Lib.hid (D4.out.then h)
    clear hp h
    go_wp2_with fail
    exact bodyPost_end (results_none rfl _ _ _) rfl (D5.out.to (by simp only [List.nil_append, List.cons_append, List.append_assoc, List.append_nil]))
end Go.Proofs.YtboondbognbnnaaGreatDoor

namespace Go.Proofs.YtboondbognbnnaaGreatDoor
open Go.RowKit
set_option maxRecDepth 100000 in
set_option maxHeartbeats 8000000 in
theorem no_pick {x0 : T} {M : List T} (h0 : NAt x0) (hL : ∀ t ∈ M, NAt t) (hM : M ≠ []) : NAt (Pz.made 5 (x0 :: M)) := by
  intro B b p o x l w ht hW hl hB hT
  obtain ⟨a0, ha0⟩ : ∃ a0, a0 = [112, 105, 99, 107, 46, 32] ++ (Pp.rn (Pp.noun x0) ++ [32, 100, 111, 46, 32]) := ⟨_, rfl⟩
  have htot : Pp.rn (Pp.noun (Pz.made 5 (x0 :: M))) = a0 ++ ((marked [32, 111, 114, 46, 32] (fun t => Pp.rn (Pp.noun t)) M).flatten ++ [32, 101, 110, 100, 46]) := by
    rw [Pp.n_pick, ors_flat, ha0]; simp [Pp.rn, Pp.rn_append, Pp.Pc.bytes]
  rw [htot]
  have HA0 := Lib.hid ha0
  have c0 := ht.kind
  simp only [Pz.made, T.kind_mk] at c0
  have c5 := ht.at_.c5
  have hkl : x.kl = M.length + 1 := ht.rep.kl
  have hk2 := ht.rep.wee.l1
  have hk3 := ht.rep.wee.l0
  have hm2 : 1 ≤ M.length := by cases M with | nil => exact absurd rfl hM | cons a r => simp
  obtain ⟨q, r, y0, hka, hy0⟩ := ht.kid (j := 0) (u := x0) rfl
  have HK := Lib.hid (fun (j : Nat) (u : T) (h : M[j]? = some u) => ht.kid (j := j + 1) (u := u) h)
  rw [hka] at c5 HK
  rw [Nat.zero_mul, Nat.add_zero] at hy0
  have HC := Lib.hid (fun (w1 : World) (h : Below B w w1) => And.intro ((h.cell (p := ⟨p, o, none⟩) ht.lt).trans c0) ((h.cell (p := ⟨p, o + 5, none⟩) ht.lt).trans c5))
  have HL := Lib.hid hL
  have HY0 := Lib.hid hy0
  have HX := Lib.hid (And.intro hkl (And.intro hk2 hk3))
  have hkc := hk3
  clear hL hkl hk2 hy0 ha0
  obtain ⟨n, hn⟩ : ∃ n, n = M.length := ⟨_, rfl⟩
  have HN := Lib.hid hn
  have HTT := Lib.hid ht
  generalize x.kl = m at *
  generalize x.kc = kc at *
  have hm1 : m = n + 1 := by rw [hn]; exact HX.out.1
  subst hm1
  have hone : (1 : Int) ≤ ((n + 1 : Nat) : Int) := by omega
  have hone2 : 1 ≤ n + 1 := by omega
  have hz1 : (0 : Int) < ((n + 1 : Nat) : Int) := by omega
  have hz2 : 0 < n + 1 := by omega
  have hkc1 : ¬ kc = 1 := by omega
  clear hn hm2
  have hA1 := (Below.refl w.heap.size w).alloc (Nat.le_refl _) (.cells #[ptr b 0] 111)
  have g1 := Box1.new w (ptr b 0) 111
  have D0 := (Done.start hW hl).later hB hA1
  have HB := Lib.hid hB
  have HT := Lib.hid hT
  have HTt := Lib.hid ht
  clear hA1 ht hW hl hB hT htot c0 c5 hM
  go_enter Tryz.func79, Tryz.ntmps79
  go_upto_region 1 with fail
  generalize w.alloc _ = w0 at *
  have G0 := Lib.hid g1
  have z0 := g1.cell
  obtain ⟨d0, d5⟩ := HC.out _ D0.below
  replace D0 := Lib.hid D0
  clear g1
  go_wp2_with fail
  refine (D0.out.put HB.out ⟨#[112, 105, 99, 107, 46, 32]⟩ (by decide)).mono ?_
  intro e w1 hp
  rcases hp.two with ⟨rfl, h⟩ | ⟨ps, rfl, h⟩
  rotate_left
  · exact ⟨rfl, (D0.out.dead h).to ⟨Pp.rn (Pp.noun x0) ++ ([32, 100, 111, 46, 32] ++ (((marked [32, 111, 114, 46, 32] (fun t => Pp.rn (Pp.noun t)) M).flatten ++ [32, 101, 110, 100, 46]))), by rw [HA0.out]; simp only [List.nil_append, List.cons_append, List.append_assoc, List.append_nil]⟩⟩
  have D1 := Lib.hid (D0.out.then h)
  have G1 := Lib.hid (G0.out.other h.other (by decide) (by decide))
  have z1 := G1.out.cell
  obtain ⟨d0, d5⟩ := HC.out _ D1.out.below
  clear hp h
  go_wp2_with fail
  replace D1 := Lib.hid (D1.out.drew HB.out)
  refine still_tailP 6 (by kernel_rfl) (by kernel_rfl) ?_
  simp only [List.take_succ_cons, List.take_zero, List.drop_succ_cons, List.drop_zero]
  repeat still_step
  refine wpStill_nil ?_
  go_wp2_with fail
  refine (h0.at_ HY0.out HB.out HT.out D1.out).mono ?_
  intro e w2 hp
  rcases hp.two with ⟨rfl, h⟩ | ⟨ps, rfl, h⟩
  rotate_left
  · exact ⟨rfl, (D1.out.dead h).to ⟨[32, 100, 111, 46, 32] ++ (((marked [32, 111, 114, 46, 32] (fun t => Pp.rn (Pp.noun t)) M).flatten ++ [32, 101, 110, 100, 46])), by rw [HA0.out]; simp only [List.nil_append, List.cons_append, List.append_assoc, List.append_nil]⟩⟩
  have D2 := Lib.hid (D1.out.then h)
  have G2 := Lib.hid (G1.out.other h.other (by decide) (by decide))
  have z2 := G2.out.cell
  obtain ⟨d0, d5⟩ := HC.out _ D2.out.below
  clear hp h
  go_wp2_with fail
  refine (D2.out.put HB.out ⟨#[32, 100, 111, 46, 32]⟩ (by decide)).mono ?_
  intro e w3 hp
  rcases hp.two with ⟨rfl, h⟩ | ⟨ps, rfl, h⟩
  rotate_left
  · exact ⟨rfl, (D2.out.dead h).to ⟨((marked [32, 111, 114, 46, 32] (fun t => Pp.rn (Pp.noun t)) M).flatten ++ [32, 101, 110, 100, 46]), by rw [HA0.out]; simp only [List.nil_append, List.cons_append, List.append_assoc, List.append_nil]⟩⟩
  have D3 := Lib.hid (D2.out.then h)
  have G3 := Lib.hid (G2.out.other h.other (by decide) (by decide))
  have z3 := G3.out.cell
  obtain ⟨d0, d5⟩ := HC.out _ D3.out.below
  clear hp h
  have H0 := Lib.hid (⟨by rw [HA0.out]; simpa using D3.out⟩ : SeqRel B b l a0 (marked [32, 111, 114, 46, 32] (fun t => Pp.rn (Pp.noun t)) M) w 0 w3)
  go_wp2_with fail
  go_loopw [101] (fun i wr => ∃ k : Nat, k ≤ n ∧ i = .int .i64 k ∧ SeqRel B b l a0 (marked [32, 111, 114, 46, 32] (fun t => Pp.rn (Pp.noun t)) M) w k wr ∧ Box1 w.heap.size (ptr b 0) 111 wr) (fun i _ => n - (intOf i).toNat)
  case atStart => exact ⟨0, Nat.zero_le _, rfl, H0.out, G3.out⟩
  case round =>
    obtain ⟨k, hk, rfl, hrel, hbox⟩ := hrel
    have D0 := Lib.hid hrel
    have G0 := Lib.hid hbox
    have z0 := hbox.cell
    obtain ⟨d0, d5⟩ := HC.out _ D0.out.done.below
    clear hrel hbox
    by_cases hlt : k < n
    · obtain ⟨t, htk⟩ : ∃ t, M[k]? = some t := ⟨M[k]'(by rw [← HN.out]; exact hlt), by simp⟩
      obtain ⟨q', r', y, hka', hy⟩ := HK.out k t htk
      cases hka'
      have HS := Lib.hid (marked_at [32, 111, 114, 46, 32] (fun t => Pp.rn (Pp.noun t)) htk)
      have HSt := Lib.hid (HL.out t (List.mem_of_getElem? htk))
      obtain ⟨j, hj⟩ : ∃ j, j = k + 1 := ⟨_, rfl⟩
      rw [← hj] at hy
      have HY := Lib.hid hy
      have hk1 : (k : Int) < (n : Int) := by omega
      have hk2 : (0 : Int) ≤ (k : Int) := by omega
      have hw1 : IntKind.i64.wrap (1 + (k : Int)) = (j : Int) := by rw [IntKind.wrap_i64]; have := HX.out.2.1; omega
      have hj0 : (0 : Int) ≤ (j : Int) := by omega
      have hj1 : (j : Int) < ((n + 1 : Nat) : Int) := by omega
      have hj2 : j < n + 1 := by omega
      have hj3 : (j : Int) < (n : Int) + 1 := by omega
      have HT' := Lib.hid hlt
      have HW := Lib.hid (show wrap64 ((k : Int) + 1) = (k : Int) + 1 from by have := HX.out.2.1; unfold wrap64; omega)
      have hw64 := HW.out
      clear htk hy hj
      by_cases h0 : k = 0
      · have hg : ¬ (0 : Int) < (k : Int) := by omega
        rw [if_pos h0] at HS
        clear h0
        go_wp2_with fail
        have D0' := Lib.hid (D0.out.done.drew HB.out)
        refine still_tailP 8 (by kernel_rfl) (by kernel_rfl) ?_
        simp only [List.take_succ_cons, List.take_zero, List.drop_succ_cons, List.drop_zero]
        repeat still_step
        refine wpStill_nil ?_
        go_wp2_with fail
        refine (HSt.out.at_ HY.out HB.out HT.out D0'.out).mono ?_
        intro e w5 hp
        rcases hp.two with ⟨rfl, h⟩ | ⟨ps, rfl, h⟩
        rotate_left
        · exact ⟨rfl, SeqRel.dead1 HS.out _ (D0'.out.dead h)⟩
        have D1 := Lib.hid (D0'.out.then h)
        have G1 := Lib.hid ((G0.out.later (Below.drew (Below.refl _ _))).other h.other (by decide) (by decide))
        clear hp h
        go_wp2_with fail
        go_roundw
        case rel => exact ⟨k + 1, HT'.out, by go_num, SeqRel.next1 HS.out D1.out, G1.out⟩
        case measure => exact sp_meas (by first | exact Int.lt_succ _ | (rw [HW.out]; exact Int.lt_succ _)) (Int.natCast_nonneg _) (Int.ofNat_lt.2 HT'.out)
      · have hg : (0 : Int) < (k : Int) := by omega
        rw [if_neg h0] at HS
        clear h0
        go_wp2_with fail
        refine (D0.out.done.put HB.out ⟨#[32, 111, 114, 46, 32]⟩ (by decide)).mono ?_
        intro e w5 hp
        rcases hp.two with ⟨rfl, h⟩ | ⟨ps, rfl, h⟩
        rotate_left
        · exact ⟨rfl, SeqRel.dead HS.out _ (D0.out.done.dead h)⟩
        have D1 := Lib.hid ((D0.out.done.then h).drew HB.out)
        have G1 := Lib.hid (G0.out.other h.other (by decide) (by decide))
        have z1 := G1.out.cell
        obtain ⟨f0, f5⟩ := HC.out _ (D0.out.done.then h).below
        clear hp h
        go_wp2_with fail
        refine still_tailP 8 (by kernel_rfl) (by kernel_rfl) ?_
        simp only [List.take_succ_cons, List.take_zero, List.drop_succ_cons, List.drop_zero]
        repeat still_step
        refine wpStill_nil ?_
        go_wp2_with fail
        refine (HSt.out.at_ HY.out HB.out HT.out D1.out).mono ?_
        intro e w6 hp
        rcases hp.two with ⟨rfl, h⟩ | ⟨ps, rfl, h⟩
        rotate_left
        · exact ⟨rfl, SeqRel.dead2 HS.out _ (D1.out.dead h)⟩
        have D2 := Lib.hid (D1.out.then h)
        have G2 := Lib.hid ((G1.out.later (Below.drew (Below.refl _ _))).other h.other (by decide) (by decide))
        clear hp h
        go_wp2_with fail
        go_roundw
        case rel => exact ⟨k + 1, HT'.out, by go_num, SeqRel.next HS.out D2.out, G2.out⟩
        case measure => exact sp_meas (by first | exact Int.lt_succ _ | (rw [HW.out]; exact Int.lt_succ _)) (Int.natCast_nonneg _) (Int.ofNat_lt.2 HT'.out)
    · obtain rfl : k = n := by omega
      have E0 := Lib.hid (D0.out.fin (by rw [marked_length]; exact HN.out.symm))
      clear D0
      go_wp2_with fail
      refine (E0.out.put HB.out ⟨#[32, 101, 110, 100, 46]⟩ (by decide)).mono ?_
      intro e w2 hp
      rcases hp.two with ⟨rfl, h⟩ | ⟨ps, rfl, h⟩
      rotate_left
      · exact ⟨rfl, (E0.out.dead h).to ⟨[], by simp only [List.nil_append, List.cons_append, List.append_assoc, List.append_nil]⟩⟩
      have D1 := Lib.hid (E0.out.then h)
      clear hp h
      go_wp2_with fail
      exact bodyPost_end (results_none rfl _ _ _) rfl (D1.out.to (by simp only [List.nil_append, List.cons_append, List.append_assoc, List.append_nil]))
end Go.Proofs.YtboondbognbnnaaGreatDoor
