/- Package parse: ranked. -/
import Derived.Test.YtpfkhdlnjefikaaGreatDoorQPwAD
set_option linter.unusedVariables false
set_option linter.unusedSimpArgs false
namespace Go.Proofs.YtpfkhdlnjefikaaGreatDoor
open Go.RowKit
namespace Pz
def rankedR (ws:List W) (e:Nat) (w:W) (n:Nat) (u:U):R (T × Nat):=
 if u.verb=false/\u.operand=false then .bad 32 w.at_
 else match ws[n]? with
  |none=>.bad 32 (place ws e n)
  |some v=>
   if v.kind≠1 then .bad 32 (place ws e n)
   else if u.operand then (if v.text≠[95] then .bad 32 (place ws e n) else .ok (made 22 [u.t],n+1))
   else
    let a:=(splitBlank v.text).map fun s=>if s=[95] then 64 else numberOf s
    .ok (.mk 42 ⟨#[]⟩ 0 [(a.length:Int)] a [u.t],n+1)
theorem verb_operand {u:U} (h:u.verb=true):u.operand=false:=by
 unfold U.verb at h
 unfold U.operand U.noun
 simp at h ⊢
 intro h1 h2 h3
 omega
set_option maxRecDepth 100000 in
set_option maxHeartbeats 4000000 in
theorem rankedB_calls {s:PS} (v:W) (n o:Nat) (u:U) (x:UV) (F:List Nat) (w:World) (hP:PAt w s n o) (hu:UArg w s u x F) (hv:u.verb=false):Calls Tryz.prog 211 #[ptr s,wordV v,x.val] w (PT 65 s F w o (rankedR s.ws s.e v n u)):=by
 have HP:=hid hP
 have HU:=hid hu
 have HL:=hid hu.lt
 unfold ptr wordV
 simp only [UV.val,UV.cells]
 clear hP hu
 unfold rankedR
 rw [hv]
 cases ho:u.operand with
 |false=>
  rw [if_pos ⟨rfl,rfl⟩]
  go_enter Tryz.func211,Tryz.ntmps211
  go_upto_region 1 with fail
  generalize hW:World.alloc _ _=w0
  obtain ⟨hS,hXW,hXU,hU⟩:=frame HP.out v HU.out w0 hW.symm
  have S0:=hid hS;have XW0:=hid hXW;have XU0:=hid hXU;have U0:=hid hU
  clear hW hS hXW hXU hU;obtain ⟨xu0c0,xu0c1,xu0c2,xu0c3,xu0c4,xu0c5,xu0c6,xu0c7,xu0c8⟩:=XU0.out.box.ru x rfl;have xu0cf:=XU0.out.box.fz;have xu0cl:=XU0.out.box.lt;obtain ⟨xw0c0,xw0c1,xw0c2⟩:=XW0.out.box.rv v rfl;have xw0cf:=XW0.out.box.fz;have xw0cl:=XW0.out.box.lt
  go_wp2_with (first
   |(go_at_call 27;refine (wrong_calls _ _).mono ?_;rintro e w9 ⟨rfl,rfl⟩)
   |(go_at_call 241;refine (operand_is ho x _ _ (U1.out.later (by go_grown)).own).mono ?_;rintro e w2 ⟨rfl,hb⟩;have hb0:=hb;have hb:=Start.then S1.out hb (by go_grown);have S2:=hid (S1.out.later hb);have U2:=hid (U1.out.later hb);have XW2:=hid (XW1.out.later hb);obtain ⟨xw2c0,xw2c1,xw2c2⟩:=XW2.out.box.rv v rfl;have xw2cf:=XW2.out.box.fz;have xw2cl:=XW2.out.box.lt;clear hb hb0)
   |(go_at_call 147;refine (verb_is hv x _ _ (U0.out.later (by go_grown)).own).mono ?_;rintro e w1 ⟨rfl,hb⟩;have hb0:=hb;have hb:=Start.then S0.out hb (by go_grown);have S1:=hid (S0.out.later hb);have U1:=hid (U0.out.later hb);have XU1:=hid (XU0.out.later hb);have XW1:=hid (XW0.out.later hb);obtain ⟨xu1c0,xu1c1,xu1c2,xu1c3,xu1c4,xu1c5,xu1c6,xu1c7,xu1c8⟩:=XU1.out.box.ru x rfl;have xu1cf:=XU1.out.box.fz;have xu1cl:=XU1.out.box.lt;obtain ⟨xw1c0,xw1c1,xw1c2⟩:=XW1.out.box.rv v rfl;have xw1cf:=XW1.out.box.fz;have xw1cl:=XW1.out.box.lt;clear hb hb0))
  all_goals exact ⟨rfl,rfl,S2.out.away⟩
 |true=>
  rw [if_neg (by simp)]
  by_cases hn:n<s.ws.length
  ·obtain ⟨v2,hv2⟩:∃ v2,s.ws[n]? =some v2:=⟨_,List.getElem?_eq_getElem hn⟩
   have HV:=hid hv2
   rw [hv2]
   clear hv2
   dsimp only
   obtain ⟨hwa,-⟩:=HP.out.word HV.out
   by_cases hk:v2.kind=1
   ·rw [if_neg (by simp [hk]),if_pos rfl]
    have d1:(v2.kind !=1)=false:=by simp [hk]
    by_cases ht:v2.text=[95]
    ·rw [if_neg (by simp [ht])]
     have d2:((bytes v2.text).toList==[95])=true:=by rw [text_beq];simp [ht]
     clear hk ht
     have HW:=hid (show wrap64 ((n:Int)+1)=((n+1:Nat):Int) from wrap_succ (by have:=HP.out.ok.len;omega))
     go_enter Tryz.func211,Tryz.ntmps211
     go_upto_region 1 with fail
     generalize hW:World.alloc _ _=w0
     obtain ⟨hS,hXW,hXU,hU⟩:=frame HP.out v HU.out w0 hW.symm
     have S0:=hid hS;have XW0:=hid hXW;have XU0:=hid hXU;have U0:=hid hU
     clear hW hS hXW hXU hU;obtain ⟨xu0c0,xu0c1,xu0c2,xu0c3,xu0c4,xu0c5,xu0c6,xu0c7,xu0c8⟩:=XU0.out.box.ru x rfl;have xu0cf:=XU0.out.box.fz;have xu0cl:=XU0.out.box.lt
     go_upto_region 4 with (first
      |(go_at_call 29;refine (place_calls s _ _ _ (S2.out.at_.later (by go_grown))).mono ?_;rintro e w3 ⟨rfl,hb⟩;have hb0:=hb;have hb:=Start.then S2.out hb (by go_grown);have S3:=hid (S2.out.later hb);have U3:=hid (U2.out.later hb);have XU3:=hid (XU2.out.later hb);obtain ⟨xu3c0,xu3c1,xu3c2,xu3c3,xu3c4,xu3c5,xu3c6,xu3c7,xu3c8⟩:=XU3.out.box.ru x rfl;have xu3cf:=XU3.out.box.fz;have xu3cl:=XU3.out.box.lt;clear hb hb0)
      |(go_at_call 241;refine (operand_is ho x _ _ (U1.out.later (by go_grown)).own).mono ?_;rintro e w2 ⟨rfl,hb⟩;have hb0:=hb;have hb:=Start.then S1.out hb (by go_grown);have S2:=hid (S1.out.later hb);have U2:=hid (U1.out.later hb);have XU2:=hid (XU1.out.later hb);clear hb hb0)
      |(go_at_call 147;refine (verb_is hv x _ _ (U0.out.later (by go_grown)).own).mono ?_;rintro e w1 ⟨rfl,hb⟩;have hb0:=hb;have hb:=Start.then S0.out hb (by go_grown);have S1:=hid (S0.out.later hb);have U1:=hid (U0.out.later hb);have XU1:=hid (XU0.out.later hb);obtain ⟨xu1c0,xu1c1,xu1c2,xu1c3,xu1c4,xu1c5,xu1c6,xu1c7,xu1c8⟩:=XU1.out.box.ru x rfl;have xu1cf:=XU1.out.box.fz;have xu1cl:=XU1.out.box.lt;clear hb hb0))
     have h0:=S3.out.at_.c0
     have h1:=S3.out.at_.c1
     obtain ⟨-,k0,k1,k2⟩:=S3.out.at_.word HV.out
     rw [hwa] at h0
     go_quiet (fail)
     go_wp2_with fail
     go_quiet (fail)
     generalize hWq:World.drewN (World.drewN w3 _) _=w4
     have hbq:Below w3.heap.size w3 w4:=hWq▸below_drewN (below_drewN (Below.refl _ _) _) _
     have S4:=hid (S3.out.later hbq);have U4:=hid (U3.out.later hbq);have XU4:=hid (XU3.out.later hbq);obtain ⟨xu4c0,xu4c1,xu4c2,xu4c3,xu4c4,xu4c5,xu4c6,xu4c7,xu4c8⟩:=XU4.out.box.ru x rfl;have xu4cf:=XU4.out.box.fz;have xu4cl:=XU4.out.box.lt
     clear hbq hWq
     clear h0 h1 k0 k1 k2
     go_upto_region 11 with (first
      |(go_at_call 241;refine (operand_is ho x _ _ (U4.out.later (by go_grown)).own).mono ?_;rintro e w5 ⟨rfl,hb⟩;have hb0:=hb;have hb:=Start.then S4.out hb (by go_grown);have S5:=hid (S4.out.later hb);have U5:=hid (U4.out.later hb);have XU5:=hid (XU4.out.later hb);have p5c1:=S5.out.at_.c1;have p5cf:=S5.out.at_.fz;clear hb hb0))
     generalize hWn:World.setCell w5 _ _=w6
     have hAn:Away s.pb w5.heap.size w5 w6:=hWn▸(Away.refl _ _ _).setCell (q:=⟨s.pb,1,none⟩) (.inl rfl) _
     have hPn:=S5.out.at_.next (n+1) (v:=.int .i64 (wrap64 ((n:Int)+1))) (by rw [HW.out])
     rw [hWn] at hPn
     have S6:=hid (S5.out.moved hAn hPn);have U6:=hid (U5.out.moved hAn);have XU6:=hid (XU5.out.moved hAn);obtain ⟨xu6c0,xu6c1,xu6c2,xu6c3,xu6c4,xu6c5,xu6c6,xu6c7,xu6c8⟩:=XU6.out.box.ru x rfl;have xu6cf:=XU6.out.box.fz;have xu6cl:=XU6.out.box.lt
     clear hAn hPn hWn
     go_wp2_with (first
      |(go_at_call 148;obtain ⟨_,TT0,-⟩:=U6.out.term;refine (made_calls' _ _ _ _ _).mono ?_;rintro e w7 ⟨rfl,hb⟩;have hb0:=hb;have hb:=Start.then S6.out hb (by go_grown);have S7:=hid (S6.out.later hb);have N7:=hid ((Tm.node1 (k:=22) TT0 ⟨by omega,by omega⟩ S6.out.at_.lt).later hb0);obtain ⟨c0,c1,c2,c3,c4,c5⟩:=S7.out.box.rz rfl;have cf:=S7.out.box.fz;have cl:=S7.out.box.lt;clear hb hb0;simp only [nodeV,TV.val,TV.cells]))
     all_goals
      refine bodyPost_ret (v:=(nodeV 22 0 ⟨#[]⟩ (some ⟨w6.heap.size,0,none⟩) 1 1).val) (by simp [results,Tryz.results211,nodeV,TV.val,TV.cells,c0,c1,c2,c3,c4,c5,cf,go_sem]) rfl ?_
      exact N7.out.ends S7.out S0.out.box.lt HL.out _ _ _ _ _ _
    ·rw [if_pos ht]
     have d2:((bytes v2.text).toList==[95])=false:=by rw [text_beq];simp [ht]
     clear hk ht
     go_enter Tryz.func211,Tryz.ntmps211
     go_upto_region 1 with fail
     generalize hW:World.alloc _ _=w0
     obtain ⟨hS,hXW,hXU,hU⟩:=frame HP.out v HU.out w0 hW.symm
     have S0:=hid hS;have XW0:=hid hXW;have XU0:=hid hXU;have U0:=hid hU
     clear hW hS hXW hXU hU;obtain ⟨xu0c0,xu0c1,xu0c2,xu0c3,xu0c4,xu0c5,xu0c6,xu0c7,xu0c8⟩:=XU0.out.box.ru x rfl;have xu0cf:=XU0.out.box.fz;have xu0cl:=XU0.out.box.lt
     go_wp2_with (first
      |(go_at_call 29;refine (place_calls s _ _ _ (S2.out.at_.later (by go_grown))).mono ?_;rintro e w3 ⟨rfl,hb⟩;have hb0:=hb;have hb:=Start.then S2.out hb (by go_grown);have S3:=hid (S2.out.later hb);have U3:=hid (U2.out.later hb);have XU3:=hid (XU2.out.later hb);obtain ⟨xu3c0,xu3c1,xu3c2,xu3c3,xu3c4,xu3c5,xu3c6,xu3c7,xu3c8⟩:=XU3.out.box.ru x rfl;have xu3cf:=XU3.out.box.fz;have xu3cl:=XU3.out.box.lt;clear hb hb0)
      |(go_at_call 241;refine (operand_is ho x _ _ (U1.out.later (by go_grown)).own).mono ?_;rintro e w2 ⟨rfl,hb⟩;have hb0:=hb;have hb:=Start.then S1.out hb (by go_grown);have S2:=hid (S1.out.later hb);have U2:=hid (U1.out.later hb);have XU2:=hid (XU1.out.later hb);clear hb hb0)
      |(go_at_call 147;refine (verb_is hv x _ _ (U0.out.later (by go_grown)).own).mono ?_;rintro e w1 ⟨rfl,hb⟩;have hb0:=hb;have hb:=Start.then S0.out hb (by go_grown);have S1:=hid (S0.out.later hb);have U1:=hid (U0.out.later hb);have XU1:=hid (XU0.out.later hb);obtain ⟨xu1c0,xu1c1,xu1c2,xu1c3,xu1c4,xu1c5,xu1c6,xu1c7,xu1c8⟩:=XU1.out.box.ru x rfl;have xu1cf:=XU1.out.box.fz;have xu1cl:=XU1.out.box.lt;clear hb hb0))
     have h0:=S3.out.at_.c0
     have h1:=S3.out.at_.c1
     obtain ⟨-,k0,k1,k2⟩:=S3.out.at_.word HV.out
     rw [hwa] at h0
     go_quiet (fail)
     go_wp2_with fail
     go_quiet (fail)
     generalize hWq:World.drewN (World.drewN w3 _) _=w4
     have hbq:Below w3.heap.size w3 w4:=hWq▸below_drewN (below_drewN (Below.refl _ _) _) _
     have S4:=hid (S3.out.later hbq)
     have U4:=hid (U3.out.later hbq)
     have XU4:=hid (XU3.out.later hbq)
     clear h0 h1 k0 k1 k2 hbq hWq
     obtain ⟨xu4c0,xu4c1,xu4c2,xu4c3,xu4c4,xu4c5,xu4c6,xu4c7,xu4c8⟩:=XU4.out.box.ru x rfl;have xu4cf:=XU4.out.box.fz;have xu4cl:=XU4.out.box.lt
     go_wp2_with (first
      |(go_at_call 27;refine (wrong_calls _ _).mono ?_;rintro e w9 ⟨rfl,rfl⟩)
      |(go_at_call 241;refine (operand_is ho x _ _ (U4.out.later (by go_grown)).own).mono ?_;rintro e w5 ⟨rfl,hb⟩;have hb0:=hb;have hb:=Start.then S4.out hb (by go_grown);have S5:=hid (S4.out.later hb);have U5:=hid (U4.out.later hb);clear hb hb0))
     all_goals exact ⟨rfl,rfl,S5.out.away⟩
   ·rw [if_pos hk]
    have d1:(v2.kind !=1)=true:=by simp [hk]
    clear hk
    go_enter Tryz.func211,Tryz.ntmps211
    go_upto_region 1 with fail
    generalize hW:World.alloc _ _=w0
    obtain ⟨hS,hXW,hXU,hU⟩:=frame HP.out v HU.out w0 hW.symm
    have S0:=hid hS;have XW0:=hid hXW;have XU0:=hid hXU;have U0:=hid hU
    clear hW hS hXW hXU hU;obtain ⟨xu0c0,xu0c1,xu0c2,xu0c3,xu0c4,xu0c5,xu0c6,xu0c7,xu0c8⟩:=XU0.out.box.ru x rfl;have xu0cf:=XU0.out.box.fz;have xu0cl:=XU0.out.box.lt
    go_wp2_with (first
     |(go_at_call 29;refine (place_calls s _ _ _ (S2.out.at_.later (by go_grown))).mono ?_;rintro e w3 ⟨rfl,hb⟩;have hb0:=hb;have hb:=Start.then S2.out hb (by go_grown);have S3:=hid (S2.out.later hb);have U3:=hid (U2.out.later hb);clear hb hb0)
     |(go_at_call 241;refine (operand_is ho x _ _ (U1.out.later (by go_grown)).own).mono ?_;rintro e w2 ⟨rfl,hb⟩;have hb0:=hb;have hb:=Start.then S1.out hb (by go_grown);have S2:=hid (S1.out.later hb);have U2:=hid (U1.out.later hb);clear hb hb0)
     |(go_at_call 147;refine (verb_is hv x _ _ (U0.out.later (by go_grown)).own).mono ?_;rintro e w1 ⟨rfl,hb⟩;have hb0:=hb;have hb:=Start.then S0.out hb (by go_grown);have S1:=hid (S0.out.later hb);have U1:=hid (U0.out.later hb);have XU1:=hid (XU0.out.later hb);obtain ⟨xu1c0,xu1c1,xu1c2,xu1c3,xu1c4,xu1c5,xu1c6,xu1c7,xu1c8⟩:=XU1.out.box.ru x rfl;have xu1cf:=XU1.out.box.fz;have xu1cl:=XU1.out.box.lt;clear hb hb0))
    have h0:=S3.out.at_.c0
    have h1:=S3.out.at_.c1
    obtain ⟨-,k0,k1,k2⟩:=S3.out.at_.word HV.out
    rw [hwa] at h0
    go_quiet (fail)
    go_wp2_with (first
     |(go_at_call 27;refine (wrong_calls _ _).mono ?_;rintro e w9 ⟨rfl,rfl⟩))
    all_goals exact ⟨rfl,rfl,S3.out.away.next (Away.of_below (below_drewN (Below.refl _ _) _))⟩
  ·rw [List.getElem?_eq_none (by omega)]
   dsimp only
   go_enter Tryz.func211,Tryz.ntmps211
   go_upto_region 1 with fail
   generalize hW:World.alloc _ _=w0
   obtain ⟨hS,hXW,hXU,hU⟩:=frame HP.out v HU.out w0 hW.symm
   have S0:=hid hS;have XW0:=hid hXW;have XU0:=hid hXU;have U0:=hid hU
   clear hW hS hXW hXU hU;obtain ⟨xu0c0,xu0c1,xu0c2,xu0c3,xu0c4,xu0c5,xu0c6,xu0c7,xu0c8⟩:=XU0.out.box.ru x rfl;have xu0cf:=XU0.out.box.fz;have xu0cl:=XU0.out.box.lt
   go_wp2_with (first
    |(go_at_call 29;refine (place_calls s _ _ _ (S2.out.at_.later (by go_grown))).mono ?_;rintro e w3 ⟨rfl,hb⟩;have hb0:=hb;have hb:=Start.then S2.out hb (by go_grown);have S3:=hid (S2.out.later hb);have U3:=hid (U2.out.later hb);clear hb hb0)
    |(go_at_call 241;refine (operand_is ho x _ _ (U1.out.later (by go_grown)).own).mono ?_;rintro e w2 ⟨rfl,hb⟩;have hb0:=hb;have hb:=Start.then S1.out hb (by go_grown);have S2:=hid (S1.out.later hb);have U2:=hid (U1.out.later hb);clear hb hb0)
    |(go_at_call 147;refine (verb_is hv x _ _ (U0.out.later (by go_grown)).own).mono ?_;rintro e w1 ⟨rfl,hb⟩;have hb0:=hb;have hb:=Start.then S0.out hb (by go_grown);have S1:=hid (S0.out.later hb);have U1:=hid (U0.out.later hb);have XU1:=hid (XU0.out.later hb);have XW1:=hid (XW0.out.later hb);obtain ⟨xu1c0,xu1c1,xu1c2,xu1c3,xu1c4,xu1c5,xu1c6,xu1c7,xu1c8⟩:=XU1.out.box.ru x rfl;have xu1cf:=XU1.out.box.fz;have xu1cl:=XU1.out.box.lt;clear hb hb0))
   have h0:=S3.out.at_.c0
   have h1:=S3.out.at_.c1
   go_quiet (fail)
   go_wp2_with (first
    |(go_at_call 27;refine (wrong_calls _ _).mono ?_;rintro e w9 ⟨rfl,rfl⟩))
   all_goals exact ⟨rfl,rfl,S3.out.away.next (Away.of_below (below_drewN (Below.refl _ _) _))⟩
end Pz
end Go.Proofs.YtpfkhdlnjefikaaGreatDoor
