/- Package parse: the joint that makes a verb of two verbs. -/
import Derived.Test.YtpfkhdlnjefikaaGreatDoorMPwAF
set_option linter.unusedVariables false
set_option linter.unusedSimpArgs false
namespace Go.Proofs.YtpfkhdlnjefikaaGreatDoor
open Go.RowKit
namespace Pz
theorem frame_below {w : World} {v : W} {x : UV} {W : World} (hW : W = ((w.alloc (.cells (wcells v) 71)).alloc (.cells x.cells 156)).alloc (.cells zeroT 34)) : Below w.heap.size w W := by
 subst hW
 go_grown
set_option maxRecDepth 100000 in
set_option maxHeartbeats 2000000 in
theorem both_calls {s : PS} {f g : Nat} (hf : CBehind s f) (hg : g ≤ f) (k : Int) (hk : 0 ≤ k ∧ k ≤ 100) (v : W) (n o : Nat) (hD : Deep o) (hn : need s.ws n 3 ≤ g) (u : U) (x : UV) (F : List Nat) (w : World) (hP : PAt w s n o) (hu : UArg w s u x F) (kb : Nat) (hkb : Bx s w kb #[.int .i64 k]) :
   Calls Tryz.prog 207 #[ptr s, wordV v, x.val, .pointer (some ⟨kb, 0, none⟩)] w (PT 65 s F w o (if u.verb = false then .bad 32 v.at_ else (behind s.ws s.e g n o).andThen fun x => .ok (made k [u.t, x.1], x.2))) := by
 have HP := hid hP
 have HU := hid hu
 have HL := hid hu.lt
 have HK := hid hk
 have HKB := hid hkb
 have HB := hid (fun W (h : PAt W s n o) => hf g hg n o W h hD hn)
 unfold ptr at HB
 unfold ptr wordV
 simp only [UV.val, UV.cells]
 clear hP hD hn hg hf hu hk hkb
 cases hv : u.verb with
 | false =>
   rw [if_pos rfl]
   go_enter Tryz.func207, Tryz.ntmps207
   go_upto_region 1 with fail
   generalize hW : World.alloc _ _ = w0
   obtain ⟨hS, hXW, hXU, hU⟩ := frame HP.out v HU.out w0 hW.symm
   have S0 := hid hS; have XW0 := hid hXW; have XU0 := hid hXU; have U0 := hid hU
   clear hW hS hXW hXU hU; have xu0c0 := XU0.out.box.cell 0 (.int .i64 x.t.kind) rfl; have xu0c1 := XU0.out.box.cell 1 (.string x.t.text) rfl; have xu0c2 := XU0.out.box.cell 2 (.int .i64 x.t.n) rfl; have xu0c3 := XU0.out.box.cell 3 (.slice x.t.sa x.t.sl x.t.sc) rfl; have xu0c4 := XU0.out.box.cell 4 (.slice x.t.aa x.t.al x.t.ac) rfl; have xu0c5 := XU0.out.box.cell 5 (.slice x.t.ka x.t.kl x.t.kc) rfl; have xu0c6 := XU0.out.box.cell 6 (.slice x.ga x.gl x.gc) rfl; have xu0c7 := XU0.out.box.cell 7 (.bool x.cap) rfl; have xu0c8 := XU0.out.box.cell 8 (.int .i64 x.at_) rfl; have xu0cf := XU0.out.box.fz; have xu0cl := XU0.out.box.lt; have xw0c0 := XW0.out.box.cell 0 (.int .i64 v.kind) rfl; have xw0c1 := XW0.out.box.cell 1 (.string (bytes v.text)) rfl; have xw0c2 := XW0.out.box.cell 2 (.int .i64 (v.at_ : Int)) rfl; have xw0cf := XW0.out.box.fz; have xw0cl := XW0.out.box.lt
   go_wp2_with (first
     | (go_at_call 27; refine (wrong_calls _ _).mono ?_; rintro e w9 ⟨rfl, rfl⟩)
     | (go_at_call 147; refine (verb_is hv x _ _ (U0.out.later (by go_grown)).own).mono ?_; rintro e w1 ⟨rfl, hb⟩; have hb0 := hb; have hb := Start.then S0.out hb (by go_grown); have S1 := hid (S0.out.later hb); have U1 := hid (U0.out.later hb); have XW1 := hid (XW0.out.later hb); have xw1c0 := XW1.out.box.cell 0 (.int .i64 v.kind) rfl; have xw1c1 := XW1.out.box.cell 1 (.string (bytes v.text)) rfl; have xw1c2 := XW1.out.box.cell 2 (.int .i64 (v.at_ : Int)) rfl; have xw1cf := XW1.out.box.fz; have xw1cl := XW1.out.box.lt; clear hb hb0))
   all_goals exact ⟨rfl, rfl, S1.out.away⟩
 | true =>
   rw [if_neg (by simp)]
   cases hr : behind s.ws s.e g n o with
   | bad c p =>
     rw [hr] at HB
     clear hr
     go_enter Tryz.func207, Tryz.ntmps207
     go_upto_region 1 with fail
     generalize hW : World.alloc _ _ = w0
     obtain ⟨hS, hXW, hXU, hU⟩ := frame HP.out v HU.out w0 hW.symm
     have S0 := hid hS; have XW0 := hid hXW; have XU0 := hid hXU; have U0 := hid hU
     have HB0 := hid (frame_below hW.symm)
     clear hW hS hXW hXU hU; have xu0c0 := XU0.out.box.cell 0 (.int .i64 x.t.kind) rfl; have xu0c1 := XU0.out.box.cell 1 (.string x.t.text) rfl; have xu0c2 := XU0.out.box.cell 2 (.int .i64 x.t.n) rfl; have xu0c3 := XU0.out.box.cell 3 (.slice x.t.sa x.t.sl x.t.sc) rfl; have xu0c4 := XU0.out.box.cell 4 (.slice x.t.aa x.t.al x.t.ac) rfl; have xu0c5 := XU0.out.box.cell 5 (.slice x.t.ka x.t.kl x.t.kc) rfl; have xu0c6 := XU0.out.box.cell 6 (.slice x.ga x.gl x.gc) rfl; have xu0c7 := XU0.out.box.cell 7 (.bool x.cap) rfl; have xu0c8 := XU0.out.box.cell 8 (.int .i64 x.at_) rfl; have xu0cf := XU0.out.box.fz; have xu0cl := XU0.out.box.lt
     have XK0 := hid (HKB.out.later HB0.out)
     go_wp2_with (first
       | (go_at_call 147; refine (verb_is hv x _ _ (U0.out.later (by go_grown)).own).mono ?_; rintro e w1 ⟨rfl, hb⟩; have hb0 := hb; have hb := Start.then S0.out hb (by go_grown); have S1 := hid (S0.out.later hb); have U1 := hid (U0.out.later hb); have XU1 := hid (XU0.out.later hb); have XK1 := hid (XK0.out.later hb); have xu1c0 := XU1.out.box.cell 0 (.int .i64 x.t.kind) rfl; have xu1c1 := XU1.out.box.cell 1 (.string x.t.text) rfl; have xu1c2 := XU1.out.box.cell 2 (.int .i64 x.t.n) rfl; have xu1c3 := XU1.out.box.cell 3 (.slice x.t.sa x.t.sl x.t.sc) rfl; have xu1c4 := XU1.out.box.cell 4 (.slice x.t.aa x.t.al x.t.ac) rfl; have xu1c5 := XU1.out.box.cell 5 (.slice x.t.ka x.t.kl x.t.kc) rfl; have xu1c6 := XU1.out.box.cell 6 (.slice x.ga x.gl x.gc) rfl; have xu1c7 := XU1.out.box.cell 7 (.bool x.cap) rfl; have xu1c8 := XU1.out.box.cell 8 (.int .i64 x.at_) rfl; have xu1cf := XU1.out.box.fz; have xu1cl := XU1.out.box.lt; have xk1c0 := XK1.out.box.cell 0 (.int .i64 k) rfl; have xk1cf := XK1.out.box.fz; have xk1cl := XK1.out.box.lt; clear hb hb0))
     all_goals go_region_dies
     all_goals
       go_wp2_with (first
         | (go_at_call 208; refine (HB.out _ (S1.out.at_.later (by go_grown))).mono ?_; intro e w9 hp; replace hp := PT.from S1.out (by go_grown) hp; obtain ⟨rfl, hA⟩ := hp))
     all_goals exact ⟨rfl, rfl, S1.out.away.next hA⟩
   | ok r =>
     obtain ⟨t, m⟩ := r
     rw [hr] at HB
     clear hr
     go_enter Tryz.func207, Tryz.ntmps207
     go_upto_region 1 with fail
     generalize hW : World.alloc _ _ = w0
     obtain ⟨hS, hXW, hXU, hU⟩ := frame HP.out v HU.out w0 hW.symm
     have S0 := hid hS; have XW0 := hid hXW; have XU0 := hid hXU; have U0 := hid hU
     have HB0 := hid (frame_below hW.symm)
     clear hW hS hXW hXU hU; have xu0c0 := XU0.out.box.cell 0 (.int .i64 x.t.kind) rfl; have xu0c1 := XU0.out.box.cell 1 (.string x.t.text) rfl; have xu0c2 := XU0.out.box.cell 2 (.int .i64 x.t.n) rfl; have xu0c3 := XU0.out.box.cell 3 (.slice x.t.sa x.t.sl x.t.sc) rfl; have xu0c4 := XU0.out.box.cell 4 (.slice x.t.aa x.t.al x.t.ac) rfl; have xu0c5 := XU0.out.box.cell 5 (.slice x.t.ka x.t.kl x.t.kc) rfl; have xu0c6 := XU0.out.box.cell 6 (.slice x.ga x.gl x.gc) rfl; have xu0c7 := XU0.out.box.cell 7 (.bool x.cap) rfl; have xu0c8 := XU0.out.box.cell 8 (.int .i64 x.at_) rfl; have xu0cf := XU0.out.box.fz; have xu0cl := XU0.out.box.lt
     have XK0 := hid (HKB.out.later HB0.out)
     go_wp2_with (first
       | (go_at_call 147; refine (verb_is hv x _ _ (U0.out.later (by go_grown)).own).mono ?_; rintro e w1 ⟨rfl, hb⟩; have hb0 := hb; have hb := Start.then S0.out hb (by go_grown); have S1 := hid (S0.out.later hb); have U1 := hid (U0.out.later hb); have XU1 := hid (XU0.out.later hb); have XK1 := hid (XK0.out.later hb); have xu1c0 := XU1.out.box.cell 0 (.int .i64 x.t.kind) rfl; have xu1c1 := XU1.out.box.cell 1 (.string x.t.text) rfl; have xu1c2 := XU1.out.box.cell 2 (.int .i64 x.t.n) rfl; have xu1c3 := XU1.out.box.cell 3 (.slice x.t.sa x.t.sl x.t.sc) rfl; have xu1c4 := XU1.out.box.cell 4 (.slice x.t.aa x.t.al x.t.ac) rfl; have xu1c5 := XU1.out.box.cell 5 (.slice x.t.ka x.t.kl x.t.kc) rfl; have xu1c6 := XU1.out.box.cell 6 (.slice x.ga x.gl x.gc) rfl; have xu1c7 := XU1.out.box.cell 7 (.bool x.cap) rfl; have xu1c8 := XU1.out.box.cell 8 (.int .i64 x.at_) rfl; have xu1cf := XU1.out.box.fz; have xu1cl := XU1.out.box.lt; have xk1c0 := XK1.out.box.cell 0 (.int .i64 k) rfl; have xk1cf := XK1.out.box.fz; have xk1cl := XK1.out.box.lt; clear hb hb0))
     all_goals
       go_region_with (first
         | (go_at_call 148; obtain ⟨_, TT0, -⟩ := U2.out.term; refine (made_calls' _ _ _ _ _).mono ?_; rintro e w3 ⟨rfl, hb⟩; have hb0 := hb; have hb := Start.then S2.out hb (by go_grown); have S3 := hid (S2.out.later hb); have N3 := hid ((Tm.node2 (k := k) TT0 T2.out HK.out S2.out.at_.lt U1.out.hi_).later hb0); have c0 := S3.out.box.cell 0 (.int .i64 0) rfl; have c1 := S3.out.box.cell 1 (.string ⟨#[]⟩) rfl; have c2 := S3.out.box.cell 2 (.int .i64 0) rfl; have c3 := S3.out.box.cell 3 (.slice none 0 0) rfl; have c4 := S3.out.box.cell 4 (.slice none 0 0) rfl; have c5 := S3.out.box.cell 5 (.slice none 0 0) rfl; have cf := S3.out.box.fz; have cl := S3.out.box.lt; clear hb hb0; simp only [nodeV, TV.val, TV.cells])
         | (go_at_call 208; refine (HB.out _ (S1.out.at_.later (by go_grown))).mono ?_; intro e w2 hp; replace hp := PT.from S1.out (by go_grown) hp; obtain ⟨y2, G2, rfl, hO, hG, hP, hA⟩ := hp; have S2 := hid (S1.out.moved hA hP); have T2 := hid (Tm.new S1.out hO hG (by simp) hA.size (by simp)); have U2 := hid (U1.out.moved hA); have XU2 := hid (XU1.out.moved hA); have XK2 := hid (XK1.out.moved hA); have xu2c0 := XU2.out.box.cell 0 (.int .i64 x.t.kind) rfl; have xu2c1 := XU2.out.box.cell 1 (.string x.t.text) rfl; have xu2c2 := XU2.out.box.cell 2 (.int .i64 x.t.n) rfl; have xu2c3 := XU2.out.box.cell 3 (.slice x.t.sa x.t.sl x.t.sc) rfl; have xu2c4 := XU2.out.box.cell 4 (.slice x.t.aa x.t.al x.t.ac) rfl; have xu2c5 := XU2.out.box.cell 5 (.slice x.t.ka x.t.kl x.t.kc) rfl; have xu2c6 := XU2.out.box.cell 6 (.slice x.ga x.gl x.gc) rfl; have xu2c7 := XU2.out.box.cell 7 (.bool x.cap) rfl; have xu2c8 := XU2.out.box.cell 8 (.int .i64 x.at_) rfl; have xu2cf := XU2.out.box.fz; have xu2cl := XU2.out.box.lt; have xk2c0 := XK2.out.box.cell 0 (.int .i64 k) rfl; have xk2cf := XK2.out.box.fz; have xk2cl := XK2.out.box.lt; clear hO hG hP hA; simp only [TV.val, TV.cells]))
     all_goals go_wp2_with fail
     all_goals
       refine bodyPost_ret (v := (nodeV k 0 ⟨#[]⟩ (some ⟨w2.heap.size, 0, none⟩) 2 2).val) (by simp [results, Tryz.results207, nodeV, TV.val, TV.cells, c0, c1, c2, c3, c4, c5, cf, go_sem]) rfl ?_
       exact N3.out.ends S3.out S0.out.box.lt HL.out _ _ _ _ _ _
end Pz
end Go.Proofs.YtpfkhdlnjefikaaGreatDoor
