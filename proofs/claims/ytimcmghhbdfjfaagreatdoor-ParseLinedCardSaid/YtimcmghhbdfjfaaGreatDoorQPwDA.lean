/- Package parse. -/
import Derived.Test.YtimcmghhbdfjfaaGreatDoorQPwAD
set_option linter.unusedVariables false
set_option linter.unusedSimpArgs false
set_option maxRecDepth 100000
set_option maxHeartbeats 4000000
namespace Go.Proofs.YtimcmghhbdfjfaaGreatDoor
open Go.RowKit
namespace Pz
def rankedR (ws:List W) (e:Nat) (w:W) (n:Nat) (u:U):R (T × Nat):=
 if u.verb=false/\u.operand=false then .bad 32 w.at_
 else match ws[n]? with
  |none=>.bad 32 (place ws e n)
  |some v=>
   if v.kind≠1 then .bad 32 (place ws e n)
   else if u.operand then (if v.text≠[95] then .bad 32 (place ws e n) else .ok (made 22 [u.t],n+1))
   else
    let a:=(splitBlank v.text).map fun s=>if s=[95] then 64 else numberOf s
    .ok (.mk 42 ⟨#[]⟩ 0 [(a.length:Int)] a [u.t],n+1)
theorem verb_operand {u:U} (h:u.verb=true):u.operand=false:=by
 unfold U.verb at h;unfold U.operand U.noun;simp at h ⊢;intro h1 h2 h3;omega
theorem rankedB_calls {s:PS} (v:W) (n o:Nat) (u:U) (x:UV) (F:List Nat) (w:World) (hP:PAt w s n o) (hu:UArg w s u x F) (hv:u.verb=false):Calls Tryz.prog 201 #[ptr s,wordV v,x.val] w (PT 61 s F w o (rankedR s.ws s.e v n u)):=by
 have HP:=hid hP;have HU:=hid hu;have HL:=hid hu.lt;unfold ptr wordV;simp only [UV.val,UV.cells];clear hP hu;unfold rankedR;rw [hv];cases ho:u.operand with
 |false=>
  rw [if_pos ⟨rfl,rfl⟩];go_enter Tryz.func201,Tryz.ntmps201
  go_upto_region 1 with fail
  generalize hW:World.alloc _ _=w0;obtain ⟨hS,hXW,hXU,hU⟩:=frame HP.out v HU.out w0 hW.symm;have S0:=hid hS;have XW0:=hid hXW;have XU0:=hid hXU;have U0:=hid hU;clear hW hS hXW hXU hU;obtain ⟨xu0c0,xu0c1,xu0c2,xu0c3,xu0c4,xu0c5,xu0c6,xu0c7,xu0c8⟩:=XU0.box.ru x rfl;have xu0cf:=XU0.box.fz;have xu0cl:=XU0.box.lt;obtain ⟨xw0c0,xw0c1,xw0c2⟩:=XW0.box.rv v rfl;have xw0cf:=XW0.box.fz;have xw0cl:=XW0.box.lt;go_wp2_with (first
   |(go_at_call 27;refine (wrong_calls _ _).mono ?_;rintro e w9 ⟨rfl,rfl⟩)
   |(go_at_call 243;refine (operand_is ho x _ _ (U1.later (by go_grown)).own).mono ?_;rintro e w2 ⟨rfl,hb⟩;have hb0:=hb;have hb:=Start.then S1.out hb (by go_grown);have S2:=hid (S1.later hb);have U2:=hid (U1.later hb);have XW2:=hid (XW1.later hb);obtain ⟨xw2c0,xw2c1,xw2c2⟩:=XW2.box.rv v rfl;have xw2cf:=XW2.box.fz;have xw2cl:=XW2.box.lt;clear hb hb0)
   |(go_at_call 126;refine (verb_is hv x _ _ (U0.later (by go_grown)).own).mono ?_;rintro e w1 ⟨rfl,hb⟩;have hb0:=hb;have hb:=Start.then S0.out hb (by go_grown);have S1:=hid (S0.later hb);have U1:=hid (U0.later hb);have XU1:=hid (XU0.later hb);have XW1:=hid (XW0.later hb);obtain ⟨xu1c0,xu1c1,xu1c2,xu1c3,xu1c4,xu1c5,xu1c6,xu1c7,xu1c8⟩:=XU1.box.ru x rfl;have xu1cf:=XU1.box.fz;have xu1cl:=XU1.box.lt;obtain ⟨xw1c0,xw1c1,xw1c2⟩:=XW1.box.rv v rfl;have xw1cf:=XW1.box.fz;have xw1cl:=XW1.box.lt;clear hb hb0))
  all_goals exact ⟨rfl,rfl,S2.away⟩
 |true=>
  rw [if_neg (by simp)];by_cases hn:n<s.ws.length
  ·obtain ⟨v2,hv2⟩:∃ v2,s.ws[n]? =some v2:=⟨_,List.getElem?_eq_getElem hn⟩
   have HV:=hid hv2;rw [hv2];clear hv2;dsimp only;obtain ⟨hwa,-⟩:=HP.word HV.out;by_cases hk:v2.kind=1
   ·rw [if_neg (by simp [hk]),if_pos rfl]
    have d1:(v2.kind !=1)=false:=by simp [hk]
    by_cases ht:v2.text=[95]
    ·rw [if_neg (by simp [ht])]
     have d2:((bytes v2.text).toList==[95])=true:=by rw [text_beq];simp [ht]
     clear hk ht;have HW:=hid (show wrap64 ((n:Int)+1)=((n+1:Nat):Int) from wrap_succ (by have:=HP.ok.len;omega));go_enter Tryz.func201,Tryz.ntmps201
     go_upto_region 1 with fail
     generalize hW:World.alloc _ _=w0;obtain ⟨hS,hXW,hXU,hU⟩:=frame HP.out v HU.out w0 hW.symm;have S0:=hid hS;have XW0:=hid hXW;have XU0:=hid hXU;have U0:=hid hU;clear hW hS hXW hXU hU;obtain ⟨xu0c0,xu0c1,xu0c2,xu0c3,xu0c4,xu0c5,xu0c6,xu0c7,xu0c8⟩:=XU0.box.ru x rfl;have xu0cf:=XU0.box.fz;have xu0cl:=XU0.box.lt;go_upto_region 4 with (first
      |(go_at_call 29;refine (place_calls s _ _ _ (S2.at_.later (by go_grown))).mono ?_;rintro e w3 ⟨rfl,hb⟩;have hb0:=hb;have hb:=Start.then S2.out hb (by go_grown);have S3:=hid (S2.later hb);have U3:=hid (U2.later hb);have XU3:=hid (XU2.later hb);obtain ⟨xu3c0,xu3c1,xu3c2,xu3c3,xu3c4,xu3c5,xu3c6,xu3c7,xu3c8⟩:=XU3.box.ru x rfl;have xu3cf:=XU3.box.fz;have xu3cl:=XU3.box.lt;clear hb hb0)
      |(go_at_call 243;refine (operand_is ho x _ _ (U1.later (by go_grown)).own).mono ?_;rintro e w2 ⟨rfl,hb⟩;have hb0:=hb;have hb:=Start.then S1.out hb (by go_grown);have S2:=hid (S1.later hb);have U2:=hid (U1.later hb);have XU2:=hid (XU1.later hb);clear hb hb0)
      |(go_at_call 126;refine (verb_is hv x _ _ (U0.later (by go_grown)).own).mono ?_;rintro e w1 ⟨rfl,hb⟩;have hb0:=hb;have hb:=Start.then S0.out hb (by go_grown);have S1:=hid (S0.later hb);have U1:=hid (U0.later hb);have XU1:=hid (XU0.later hb);obtain ⟨xu1c0,xu1c1,xu1c2,xu1c3,xu1c4,xu1c5,xu1c6,xu1c7,xu1c8⟩:=XU1.box.ru x rfl;have xu1cf:=XU1.box.fz;have xu1cl:=XU1.box.lt;clear hb hb0))
     have h0:=S3.at_.c0;have h1:=S3.at_.c1;obtain ⟨-,k0,k1,k2⟩:=S3.at_.word HV.out;rw [hwa] at h0;go_quiet (fail);go_wp2_with fail
     go_quiet (fail);generalize hWq:World.drewN (World.drewN w3 _) _=w4;have hbq:Below w3.heap.size w3 w4:=hWq▸below_drewN (below_drewN (qb _ _) _) _;have S4:=hid (S3.later hbq);have U4:=hid (U3.later hbq);have XU4:=hid (XU3.later hbq);obtain ⟨xu4c0,xu4c1,xu4c2,xu4c3,xu4c4,xu4c5,xu4c6,xu4c7,xu4c8⟩:=XU4.box.ru x rfl;have xu4cf:=XU4.box.fz;have xu4cl:=XU4.box.lt;clear hbq hWq;clear h0 h1 k0 k1 k2;go_upto_region 11 with (first
      |(go_at_call 243;refine (operand_is ho x _ _ (U4.later (by go_grown)).own).mono ?_;rintro e w5 ⟨rfl,hb⟩;have hb0:=hb;have hb:=Start.then S4.out hb (by go_grown);have S5:=hid (S4.later hb);have U5:=hid (U4.later hb);have XU5:=hid (XU4.later hb);have p5c1:=S5.at_.c1;have p5cf:=S5.at_.fz;clear hb hb0))
     generalize hWn:World.setCell w5 _ _=w6;have hAn:Away s.pb w5.heap.size w5 w6:=hWn▸(Away.refl _ _ _).setCell (q:=⟨s.pb,1,none⟩) (.inl rfl) _;have hPn:=S5.at_.next (n+1) (v:=.int .i64 (wrap64 ((n:Int)+1))) (by rw [HW.out]);rw [hWn] at hPn;have S6:=hid (S5.moved hAn hPn);have U6:=hid (U5.moved hAn);have XU6:=hid (XU5.moved hAn);obtain ⟨xu6c0,xu6c1,xu6c2,xu6c3,xu6c4,xu6c5,xu6c6,xu6c7,xu6c8⟩:=XU6.box.ru x rfl;have xu6cf:=XU6.box.fz;have xu6cl:=XU6.box.lt;clear hAn hPn hWn;go_wp2_with (first
      |(go_at_call 127;obtain ⟨_,TT0,-⟩:=U6.term;refine (made_calls' _ _ _ _ _).mono ?_;rintro e w7 ⟨rfl,hb⟩;have hb0:=hb;have hb:=Start.then S6.out hb (by go_grown);have S7:=hid (S6.later hb);have N7:=hid ((Tm.node1 (k:=22) TT0 ⟨by omega,by omega⟩ S6.at_.lt).later hb0);obtain ⟨c0,c1,c2,c3,c4,c5⟩:=S7.box.rz rfl;have cf:=S7.box.fz;have cl:=S7.box.lt;clear hb hb0;simp only [nodeV,TV.val,TV.cells]))
     all_goals
      refine bodyPost_ret (v:=(nodeV 22 0 ⟨#[]⟩ (some ⟨w6.heap.size,0,none⟩) 1 1).val) (by simp [results,Tryz.results201,nodeV,TV.val,TV.cells,c0,c1,c2,c3,c4,c5,cf,go_sem]) rfl ?_;exact N7.ends S7.out S0.box.lt HL.out _ _ _ _ _ _
    ·rw [if_pos ht]
     have d2:((bytes v2.text).toList==[95])=false:=by rw [text_beq];simp [ht]
     clear hk ht;go_enter Tryz.func201,Tryz.ntmps201
     go_upto_region 1 with fail
     generalize hW:World.alloc _ _=w0;obtain ⟨hS,hXW,hXU,hU⟩:=frame HP.out v HU.out w0 hW.symm;have S0:=hid hS;have XW0:=hid hXW;have XU0:=hid hXU;have U0:=hid hU;clear hW hS hXW hXU hU;obtain ⟨xu0c0,xu0c1,xu0c2,xu0c3,xu0c4,xu0c5,xu0c6,xu0c7,xu0c8⟩:=XU0.box.ru x rfl;have xu0cf:=XU0.box.fz;have xu0cl:=XU0.box.lt;go_wp2_with (first
      |(go_at_call 29;refine (place_calls s _ _ _ (S2.at_.later (by go_grown))).mono ?_;rintro e w3 ⟨rfl,hb⟩;have hb0:=hb;have hb:=Start.then S2.out hb (by go_grown);have S3:=hid (S2.later hb);have U3:=hid (U2.later hb);have XU3:=hid (XU2.later hb);obtain ⟨xu3c0,xu3c1,xu3c2,xu3c3,xu3c4,xu3c5,xu3c6,xu3c7,xu3c8⟩:=XU3.box.ru x rfl;have xu3cf:=XU3.box.fz;have xu3cl:=XU3.box.lt;clear hb hb0)
      |(go_at_call 243;refine (operand_is ho x _ _ (U1.later (by go_grown)).own).mono ?_;rintro e w2 ⟨rfl,hb⟩;have hb0:=hb;have hb:=Start.then S1.out hb (by go_grown);have S2:=hid (S1.later hb);have U2:=hid (U1.later hb);have XU2:=hid (XU1.later hb);clear hb hb0)
      |(go_at_call 126;refine (verb_is hv x _ _ (U0.later (by go_grown)).own).mono ?_;rintro e w1 ⟨rfl,hb⟩;have hb0:=hb;have hb:=Start.then S0.out hb (by go_grown);have S1:=hid (S0.later hb);have U1:=hid (U0.later hb);have XU1:=hid (XU0.later hb);obtain ⟨xu1c0,xu1c1,xu1c2,xu1c3,xu1c4,xu1c5,xu1c6,xu1c7,xu1c8⟩:=XU1.box.ru x rfl;have xu1cf:=XU1.box.fz;have xu1cl:=XU1.box.lt;clear hb hb0))
     have h0:=S3.at_.c0;have h1:=S3.at_.c1;obtain ⟨-,k0,k1,k2⟩:=S3.at_.word HV.out;rw [hwa] at h0;go_quiet (fail);go_wp2_with fail
     go_quiet (fail);generalize hWq:World.drewN (World.drewN w3 _) _=w4;have hbq:Below w3.heap.size w3 w4:=hWq▸below_drewN (below_drewN (qb _ _) _) _;have S4:=hid (S3.later hbq);have U4:=hid (U3.later hbq);have XU4:=hid (XU3.later hbq);clear h0 h1 k0 k1 k2 hbq hWq;obtain ⟨xu4c0,xu4c1,xu4c2,xu4c3,xu4c4,xu4c5,xu4c6,xu4c7,xu4c8⟩:=XU4.box.ru x rfl;have xu4cf:=XU4.box.fz;have xu4cl:=XU4.box.lt;go_wp2_with (first
      |(go_at_call 27;refine (wrong_calls _ _).mono ?_;rintro e w9 ⟨rfl,rfl⟩)
      |(go_at_call 243;refine (operand_is ho x _ _ (U4.later (by go_grown)).own).mono ?_;rintro e w5 ⟨rfl,hb⟩;have hb0:=hb;have hb:=Start.then S4.out hb (by go_grown);have S5:=hid (S4.later hb);have U5:=hid (U4.later hb);clear hb hb0))
     all_goals exact ⟨rfl,rfl,S5.away⟩
   ·rw [if_pos hk]
    have d1:(v2.kind !=1)=true:=by simp [hk]
    clear hk;go_enter Tryz.func201,Tryz.ntmps201
    go_upto_region 1 with fail
    generalize hW:World.alloc _ _=w0;obtain ⟨hS,hXW,hXU,hU⟩:=frame HP.out v HU.out w0 hW.symm;have S0:=hid hS;have XW0:=hid hXW;have XU0:=hid hXU;have U0:=hid hU;clear hW hS hXW hXU hU;obtain ⟨xu0c0,xu0c1,xu0c2,xu0c3,xu0c4,xu0c5,xu0c6,xu0c7,xu0c8⟩:=XU0.box.ru x rfl;have xu0cf:=XU0.box.fz;have xu0cl:=XU0.box.lt;go_wp2_with (first
     |(go_at_call 29;refine (place_calls s _ _ _ (S2.at_.later (by go_grown))).mono ?_;rintro e w3 ⟨rfl,hb⟩;have hb0:=hb;have hb:=Start.then S2.out hb (by go_grown);have S3:=hid (S2.later hb);have U3:=hid (U2.later hb);clear hb hb0)
     |(go_at_call 243;refine (operand_is ho x _ _ (U1.later (by go_grown)).own).mono ?_;rintro e w2 ⟨rfl,hb⟩;have hb0:=hb;have hb:=Start.then S1.out hb (by go_grown);have S2:=hid (S1.later hb);have U2:=hid (U1.later hb);clear hb hb0)
     |(go_at_call 126;refine (verb_is hv x _ _ (U0.later (by go_grown)).own).mono ?_;rintro e w1 ⟨rfl,hb⟩;have hb0:=hb;have hb:=Start.then S0.out hb (by go_grown);have S1:=hid (S0.later hb);have U1:=hid (U0.later hb);have XU1:=hid (XU0.later hb);obtain ⟨xu1c0,xu1c1,xu1c2,xu1c3,xu1c4,xu1c5,xu1c6,xu1c7,xu1c8⟩:=XU1.box.ru x rfl;have xu1cf:=XU1.box.fz;have xu1cl:=XU1.box.lt;clear hb hb0))
    have h0:=S3.at_.c0;have h1:=S3.at_.c1;obtain ⟨-,k0,k1,k2⟩:=S3.at_.word HV.out;rw [hwa] at h0;go_quiet (fail);go_wp2_with (first
     |(go_at_call 27;refine (wrong_calls _ _).mono ?_;rintro e w9 ⟨rfl,rfl⟩))
    all_goals exact ⟨rfl,rfl,S3.away.next (Away.of_below (below_drewN (qb _ _) _))⟩
  ·rw [List.getElem?_eq_none (by omega)]
   dsimp only;go_enter Tryz.func201,Tryz.ntmps201
   go_upto_region 1 with fail
   generalize hW:World.alloc _ _=w0;obtain ⟨hS,hXW,hXU,hU⟩:=frame HP.out v HU.out w0 hW.symm;have S0:=hid hS;have XW0:=hid hXW;have XU0:=hid hXU;have U0:=hid hU;clear hW hS hXW hXU hU;obtain ⟨xu0c0,xu0c1,xu0c2,xu0c3,xu0c4,xu0c5,xu0c6,xu0c7,xu0c8⟩:=XU0.box.ru x rfl;have xu0cf:=XU0.box.fz;have xu0cl:=XU0.box.lt;go_wp2_with (first
    |(go_at_call 29;refine (place_calls s _ _ _ (S2.at_.later (by go_grown))).mono ?_;rintro e w3 ⟨rfl,hb⟩;have hb0:=hb;have hb:=Start.then S2.out hb (by go_grown);have S3:=hid (S2.later hb);have U3:=hid (U2.later hb);clear hb hb0)
    |(go_at_call 243;refine (operand_is ho x _ _ (U1.later (by go_grown)).own).mono ?_;rintro e w2 ⟨rfl,hb⟩;have hb0:=hb;have hb:=Start.then S1.out hb (by go_grown);have S2:=hid (S1.later hb);have U2:=hid (U1.later hb);clear hb hb0)
    |(go_at_call 126;refine (verb_is hv x _ _ (U0.later (by go_grown)).own).mono ?_;rintro e w1 ⟨rfl,hb⟩;have hb0:=hb;have hb:=Start.then S0.out hb (by go_grown);have S1:=hid (S0.later hb);have U1:=hid (U0.later hb);have XU1:=hid (XU0.later hb);have XW1:=hid (XW0.later hb);obtain ⟨xu1c0,xu1c1,xu1c2,xu1c3,xu1c4,xu1c5,xu1c6,xu1c7,xu1c8⟩:=XU1.box.ru x rfl;have xu1cf:=XU1.box.fz;have xu1cl:=XU1.box.lt;clear hb hb0))
   have h0:=S3.at_.c0;have h1:=S3.at_.c1;go_quiet (fail);go_wp2_with (first
    |(go_at_call 27;refine (wrong_calls _ _).mono ?_;rintro e w9 ⟨rfl,rfl⟩))
   all_goals exact ⟨rfl,rfl,S3.away.next (Away.of_below (below_drewN (qb _ _) _))⟩
end Pz
open Go.RowKit
namespace Pz
def rankOf (s:List UInt8):Int:=if s=[95] then 64 else numberOf s
theorem rankOf_eq:(fun s:List UInt8=>if s=[95] then (64:Int) else numberOf s)=rankOf:=rfl
def rankCs (kb:Nat) (v:Value):Array Value:=#[.int .i64 42,.string ⟨#[]⟩,.int .i64 0,.slice none 0 0,v,.slice (some ⟨kb,0,none⟩) 1 1]
theorem rankCs_fifth (kb:Nat):Fifth (rankCs kb):=by
 intro v v';refine ⟨rfl,fun i x h=>?_⟩;unfold rankCs at h ⊢
 match i with
 |0=>simpa using h
 |1=>simpa using h
 |2=>simpa using h
 |3=>simpa using h
 |4=>simp at h;simp [h]
 |5=>simpa using h
 |i+6=>simp at h
theorem rankCs_third (kb:Nat) (v u:Value):∀ (i:Nat) (x:Value),(#[.int .i64 42,.string ⟨#[]⟩,.int .i64 0,u,v,.slice (some ⟨kb,0,none⟩) 1 1]:Array Value)[i]? =some x->if i=3 then x=u else (rankCs kb v)[i]? =some x:=by
 intro i x h;unfold rankCs
 match i with
 |0=>simpa using h
 |1=>simpa using h
 |2=>simpa using h
 |3=>simp at h;simp [h]
 |4=>simpa using h
 |5=>simpa using h
 |i+6=>simp at h
theorem rankedA_calls {s:PS} (v:W) (n o:Nat) (u:U) (x:UV) (F:List Nat) (w:World) (hP:PAt w s n o) (hu:UArg w s u x F) (hv:u.verb=true):Calls Tryz.prog 201 #[ptr s,wordV v,x.val] w (PT 61 s F w o (rankedR s.ws s.e v n u)):=by
 have HP:=hid hP;have HU:=hid hu;have HL:=hid hu.lt;have ho:=verb_operand hv;unfold ptr wordV;simp only [UV.val,UV.cells];clear hP hu;unfold rankedR;rw [hv,ho];rw [if_neg (by simp)];by_cases hn:n<s.ws.length
 ·obtain ⟨v2,hv2⟩:∃ v2,s.ws[n]? =some v2:=⟨_,List.getElem?_eq_getElem hn⟩
  have HV:=hid hv2;rw [hv2];clear hv2;dsimp only;obtain ⟨hwa,-⟩:=HP.word HV.out;by_cases hk:v2.kind=1
  ·rw [if_neg (by simp [hk]),if_neg (by simp)]
   have d1:(v2.kind !=1)=false:=by simp [hk]
   have HO:=hid ((HP.ok.word n v2 HV.out).2.num hk);have HLen:=hid ((HP.ok.word n v2 HV.out).2.len);clear hk;have HW:=hid (show wrap64 ((n:Int)+1)=((n+1:Nat):Int) from wrap_succ (by have:=HP.ok.len;omega));rw [rankOf_eq];go_enter Tryz.func201,Tryz.ntmps201
   go_upto_region 1 with fail
   generalize hW:World.alloc _ _=w0;obtain ⟨hS,hXW,hXU,hU⟩:=frame HP.out v HU.out w0 hW.symm;have S0:=hid hS;have XW0:=hid hXW;have XU0:=hid hXU;have U0:=hid hU;clear hW hS hXW hXU hU;obtain ⟨xu0c0,xu0c1,xu0c2,xu0c3,xu0c4,xu0c5,xu0c6,xu0c7,xu0c8⟩:=XU0.box.ru x rfl;have xu0cf:=XU0.box.fz;have xu0cl:=XU0.box.lt;go_upto_region 4 with (first
    |(go_at_call 29;refine (place_calls s _ _ _ (S1.at_.later (by go_grown))).mono ?_;rintro e w2 ⟨rfl,hb⟩;have hb0:=hb;have hb:=Start.then S1.out hb (by go_grown);have S2:=hid (S1.later hb);have U2:=hid (U1.later hb);have XU2:=hid (XU1.later hb);obtain ⟨xu2c0,xu2c1,xu2c2,xu2c3,xu2c4,xu2c5,xu2c6,xu2c7,xu2c8⟩:=XU2.box.ru x rfl;have xu2cf:=XU2.box.fz;have xu2cl:=XU2.box.lt;clear hb hb0)
    |(go_at_call 126;refine (verb_is hv x _ _ (U0.later (by go_grown)).own).mono ?_;rintro e w1 ⟨rfl,hb⟩;have hb0:=hb;have hb:=Start.then S0.out hb (by go_grown);have S1:=hid (S0.later hb);have U1:=hid (U0.later hb);have XU1:=hid (XU0.later hb);clear hb hb0))
   have h0:=S2.at_.c0;have h1:=S2.at_.c1;obtain ⟨-,k0,k1,k2⟩:=S2.at_.word HV.out;rw [hwa] at h0;go_quiet (fail);go_wp2_with fail
   go_quiet (fail);generalize hWq:World.drewN (World.drewN w2 _) _=w3;have hbq:Below w2.heap.size w2 w3:=hWq▸below_drewN (below_drewN (qb _ _) _) _;have S3:=hid (S2.later hbq);have U3:=hid (U2.later hbq);have XU3:=hid (XU2.later hbq);obtain ⟨xu3c0,xu3c1,xu3c2,xu3c3,xu3c4,xu3c5,xu3c6,xu3c7,xu3c8⟩:=XU3.box.ru x rfl;have xu3cf:=XU3.box.fz;have xu3cl:=XU3.box.lt;clear hbq hWq;clear h0 h1 k0 k1 k2;go_upto_region 13 with (first
    |(go_at_call 243;refine (operand_is ho x _ _ (U3.later (by go_grown)).own).mono ?_;rintro e w4 ⟨rfl,hb⟩;have hb0:=hb;have hb:=Start.then S3.out hb (by go_grown);have S4:=hid (S3.later hb);have U4:=hid (U3.later hb);have XU4:=hid (XU3.later hb);have p4c1:=S4.at_.c1;have p4cf:=S4.at_.fz;clear hb hb0))
   generalize hWn:World.setCell w4 _ _=w5;have hAn:Away s.pb w4.heap.size w4 w5:=hWn▸(Away.refl _ _ _).setCell (q:=⟨s.pb,1,none⟩) (.inl rfl) _;have hPn:=S4.at_.next (n+1) (v:=.int .i64 (wrap64 ((n:Int)+1))) (by rw [HW.out]);rw [hWn] at hPn;have S5:=hid (S4.moved hAn hPn);have U5:=hid (U4.moved hAn);have XU5:=hid (XU4.moved hAn);obtain ⟨xu5c0,xu5c1,xu5c2,xu5c3,xu5c4,xu5c5,xu5c6,xu5c7,xu5c8⟩:=XU5.box.ru x rfl;have xu5cf:=XU5.box.fz;have xu5cl:=XU5.box.lt;clear hAn hPn hWn;go_wp2_with (first
    |(go_at_call 127;obtain ⟨_,TT0,-⟩:=U5.term;refine (made_calls' _ _ _ _ _).mono ?_;rintro e w6 ⟨rfl,hb⟩;have hb0:=hb;have hb:=Start.then S5.out hb (by go_grown);have S6:=hid (S5.later hb);have N6:=hid ((Tm.node1 (k:=42) TT0 ⟨by omega,by omega⟩ S5.at_.lt).later hb0);have U6:=hid (U5.later hb);clear hb hb0;simp only [nodeV,TV.val,TV.cells])
    |(go_at_call 153;refine (split_calls v2.text _ (by have:=HLen.out;omega) (S6.at_.vars.later (by go_grown) (qa _))).mono ?_;rintro e w7 ⟨rfl,rfl⟩))
   have HM:=hid (splitBlank_ne v2.text);have HLs:=hid (qi (splitBlank_len v2.text) (Nat.succ_le_succ HLen.out));have HA0:=hid (Acc.start w6 (rankCs w5.heap.size) (splitBlank v2.text) ((splitBlank v2.text).map rankOf) 28);have HPl:=hid (fun p hp=>splitBlank_mem_len v2.text p hp);obtain ⟨j0,hj0,hy0,hy1,hy2⟩:=info_parts info_int640;generalize hps:splitBlank v2.text=ps at HO HM HLs HA0 HPl ⊢;have HPS:=hid hps;clear hps
   go_loopw [94] (fun i wr=>∃ (K:Nat) (v':Value),K<=ps.length/\i=.int .i64 K/\Acc w6 (w6.heap.size+1) ps (ps.map rankOf) (rankCs w5.heap.size) K v' wr) (fun i _=>ps.length-(intOf i).toNat)
   case atStart=>exact ⟨0,_,Nat.zero_le _,rfl,HA0.out⟩
   case round=>
    obtain ⟨K,v',hK,rfl,hA⟩:=hrel;by_cases hlt:K<ps.length
    ·obtain ⟨p,hp⟩:∃ p,ps[K]? =some p:=⟨_,List.getElem?_eq_getElem hlt⟩
     have hx:(ps.map rankOf)[K]? =some (rankOf p):=by rw [List.getElem?_map,hp];rfl
     have HX:=hid hx;have HA:=hid hA;have hst:=hA.strs K p hp;have hls:=HLs.out;have hPn:=HO.out p (List.mem_of_getElem? hp);have hPl:=HPl.out p (List.mem_of_getElem? hp);clear hx hp;by_cases h95:p=[95]
     ·have d3:((bytes p).toList==[95])=true:=by rw [text_beq];simp [h95]
      have hr:rankOf p=64:=by unfold rankOf;rw [if_pos h95]
      rw [hr] at HX;clear h95 hr hPn hPl;have c4:=hA.box.cell 4 v' rfl;have c4f:=hA.box.fz;have c4l:=hA.box.lt;have HA2:=hid (hA.later (w':=wr.alloc (.cells #[.int .i64 64] 2)) ((qb _ _).alloc (qa _) _));clear hA;go_wp2_with (first
       |(at_builtin;refine wpList_append_lies _ rfl _ _ 23 rfl (w6.heap.size+1+1) 2 j0 (.int .i64 0) 1 8 Tryz.underlying23 hj0 hy0 hy1 hy2 rfl (by decide) v' K _ rfl HA2.row ⟨wr.heap.size,0,none⟩ 1 1 [.int .i64 64] rfl rfl (World.news_of_block (heap_new _ _)) (by simp [Value.oneCell']) (by decide) (by unfold maxLen;omega) (by omega) (by have:=HA2.sb1;omega) _ rfl ?_;intro g cap w8 hown hgrow hat hlt2;have HS:=hid (HA2.step (rankCs_fifth w5.heap.size) HX.out hown hgrow);have hb8:=HA2.box.kept (w':=w8) (hgrow.block _ HA2.box.lt (fun e=>by have h1:=(ownsRow_lt HA2.row _ e.symm).1;omega)) hgrow.size;have c8:=hb8.cell 4 v' rfl;have c8f:=hb8.fz;have c8l:=hb8.lt;clear hown hgrow hat))
      go_roundw
      case rel=>exact ⟨K+1,_,by omega,by go_num,HS.out⟩
      case measure=>simp [intOf];omega
     ·have d3:((bytes p).toList==[95])=false:=by rw [text_beq];simp [h95]
      have hr:rankOf p=numberOf p:=by unfold rankOf;rw [if_neg h95]
      rw [hr] at HX;have HN:=hid (fun W (hv:Vars W)=>number_calls p hPn h95 (qi hPl HLen.out) W hv);have HVr:=hid (S6.at_.vars.later hA.below (qa _));clear h95 hr hPn hPl hA;go_wp2_with (first
       |(at_builtin;refine wpList_append_lies _ rfl _ _ 23 rfl (w6.heap.size+1+1) 2 j0 (.int .i64 0) 1 8 Tryz.underlying23 hj0 hy0 hy1 hy2 rfl (by decide) v' K _ rfl HA2.row ⟨wn.heap.size,0,none⟩ 1 1 [.int .i64 (numberOf p)] rfl rfl (World.news_of_block (heap_new _ _)) (by simp [Value.oneCell']) (by decide) (by unfold maxLen;omega) (by omega) (by have:=HA2.sb1;omega) _ rfl ?_;intro g cap w8 hown hgrow hat hlt2;have HS:=hid (HA2.step (rankCs_fifth w5.heap.size) HX.out hown hgrow);have hb8:=HA2.box.kept (w':=w8) (hgrow.block _ HA2.box.lt (fun e=>by have h1:=(ownsRow_lt HA2.row _ e.symm).1;omega)) hgrow.size;have c8:=hb8.cell 4 v' rfl;have c8f:=hb8.fz;have c8l:=hb8.lt;clear hown hgrow hat)
       |(go_at_call 154;refine (HN.out _ HVr.out).mono ?_;rintro e wn ⟨rfl,hbn⟩;have HA1:=hid (HA.later hbn);have c4:=HA1.box.cell 4 v' rfl;have c4f:=HA1.box.fz;have c4l:=HA1.box.lt;have HA2:=hid (HA1.later (w':=wn.alloc (.cells #[.int .i64 (numberOf p)] 2)) ((qb _ _).alloc (qa _) _));clear hbn))
      go_roundw
      case rel=>exact ⟨K+1,_,by omega,by go_num,HS.out⟩
      case measure=>simp [intOf];omega
    ·obtain rfl:K=ps.length:=by omega
     have hKe:ps.length=(ps.map rankOf).length:=by rw [List.length_map]
     have hK0:0<ps.length:=by have:=List.length_pos_iff.2 HM.out;omega
     have hls:=HLs.out;obtain ⟨g,cap,rfl,hend⟩:=N6.nums hA hKe hK0 (by omega) S6.at_.lt;have HE:=hid hend;have HA:=hid hA;have q4:=hA.box.cell 4 (.slice (some ⟨g,0,none⟩) ps.length cap) rfl;have q3:=hA.box.cell 3 (.slice none 0 0) rfl;have q4f:=hA.box.fz;have q4l:=hA.box.lt;clear hA hend hKe hK;go_upto_region 23 with fail
     generalize hW8:World.alloc _ _=w8;obtain ⟨hB8,hT8⟩:=HE.out w8 (by rw [<-hW8]);have hX8:Boxd w8 w6.heap.size #[.int .i64 42,.string ⟨#[]⟩,.int .i64 0,.slice (some ⟨wr.heap.size,0,none⟩) 1 1,.slice (some ⟨g,0,none⟩) ps.length cap,.slice (some ⟨w5.heap.size,0,none⟩) 1 1]:=by
      rw [<-hW8];refine (HA.box.set 3 _ rfl (rankCs_third _ _ _)).alloc _
     have S8:=hid (S6.later hB8);have T8:=hid hT8;obtain ⟨c0,c1,c2,c3,c4,c5⟩:=S8.box.rz rfl;have cf:=S8.box.fz;have cl:=S8.box.lt;have x0:=hX8.cell 0 (.int .i64 42) rfl;have x1:=hX8.cell 1 (.string ⟨#[]⟩) rfl;have x2:=hX8.cell 2 (.int .i64 0) rfl;have x3:=hX8.cell 3 (.slice (some ⟨wr.heap.size,0,none⟩) 1 1) rfl;have x4:=hX8.cell 4 (.slice (some ⟨g,0,none⟩) ps.length cap) rfl;have x5:=hX8.cell 5 (.slice (some ⟨w5.heap.size,0,none⟩) 1 1) rfl;have hQ:=HPS.out;clear hB8 hT8 hX8 q4 q4f q4l q3 hW8;go_wp2_with fail
     refine bodyPost_ret (v:=(⟨42,⟨#[]⟩,0,some ⟨wr.heap.size,0,none⟩,1,1,some ⟨g,0,none⟩,ps.length,cap,some ⟨w5.heap.size,0,none⟩,1,1⟩:TV).val) (by simp [results,Tryz.results201,TV.val,TV.cells,c0,c1,c2,c3,c4,c5,cf,go_sem]) rfl ?_;rw [hQ];exact T8.ends S8.out S0.box.lt HL.out _ _ _ _ _ _
  ·rw [if_pos hk]
   have d1:(v2.kind !=1)=true:=by simp [hk]
   clear hk;go_enter Tryz.func201,Tryz.ntmps201
   go_upto_region 1 with fail
   generalize hW:World.alloc _ _=w0;obtain ⟨hS,hXW,hXU,hU⟩:=frame HP.out v HU.out w0 hW.symm;have S0:=hid hS;have XW0:=hid hXW;have XU0:=hid hXU;have U0:=hid hU;clear hW hS hXW hXU hU;obtain ⟨xu0c0,xu0c1,xu0c2,xu0c3,xu0c4,xu0c5,xu0c6,xu0c7,xu0c8⟩:=XU0.box.ru x rfl;have xu0cf:=XU0.box.fz;have xu0cl:=XU0.box.lt;go_wp2_with (first
    |(go_at_call 29;refine (place_calls s _ _ _ (S1.at_.later (by go_grown))).mono ?_;rintro e w2 ⟨rfl,hb⟩;have hb0:=hb;have hb:=Start.then S1.out hb (by go_grown);have S2:=hid (S1.later hb);have U2:=hid (U1.later hb);clear hb hb0)
    |(go_at_call 126;refine (verb_is hv x _ _ (U0.later (by go_grown)).own).mono ?_;rintro e w1 ⟨rfl,hb⟩;have hb0:=hb;have hb:=Start.then S0.out hb (by go_grown);have S1:=hid (S0.later hb);have U1:=hid (U0.later hb);have XU1:=hid (XU0.later hb);clear hb hb0))
   have h0:=S2.at_.c0;have h1:=S2.at_.c1;obtain ⟨-,k0,k1,k2⟩:=S2.at_.word HV.out;rw [hwa] at h0;go_quiet (fail);go_wp2_with (first
    |(go_at_call 27;refine (wrong_calls _ _).mono ?_;rintro e w9 ⟨rfl,rfl⟩))
   all_goals exact ⟨rfl,rfl,S2.away.next (Away.of_below (below_drewN (qb _ _) _))⟩
 ·rw [List.getElem?_eq_none (by omega)]
  dsimp only;go_enter Tryz.func201,Tryz.ntmps201
  go_upto_region 1 with fail
  generalize hW:World.alloc _ _=w0;obtain ⟨hS,hXW,hXU,hU⟩:=frame HP.out v HU.out w0 hW.symm;have S0:=hid hS;have XW0:=hid hXW;have XU0:=hid hXU;have U0:=hid hU;clear hW hS hXW hXU hU;obtain ⟨xu0c0,xu0c1,xu0c2,xu0c3,xu0c4,xu0c5,xu0c6,xu0c7,xu0c8⟩:=XU0.box.ru x rfl;have xu0cf:=XU0.box.fz;have xu0cl:=XU0.box.lt;go_wp2_with (first
   |(go_at_call 29;refine (place_calls s _ _ _ (S1.at_.later (by go_grown))).mono ?_;rintro e w2 ⟨rfl,hb⟩;have hb0:=hb;have hb:=Start.then S1.out hb (by go_grown);have S2:=hid (S1.later hb);have U2:=hid (U1.later hb);clear hb hb0)
   |(go_at_call 126;refine (verb_is hv x _ _ (U0.later (by go_grown)).own).mono ?_;rintro e w1 ⟨rfl,hb⟩;have hb0:=hb;have hb:=Start.then S0.out hb (by go_grown);have S1:=hid (S0.later hb);have U1:=hid (U0.later hb);have XU1:=hid (XU0.later hb);clear hb hb0))
  have h0:=S2.at_.c0;have h1:=S2.at_.c1;go_quiet (fail);go_wp2_with (first
   |(go_at_call 27;refine (wrong_calls _ _).mono ?_;rintro e w9 ⟨rfl,rfl⟩))
  all_goals exact ⟨rfl,rfl,S2.away.next (Away.of_below (below_drewN (qb _ _) _))⟩
theorem ranked_calls {s:PS} (v:W) (n o:Nat):CJoint s 201 (fun v n _ u=>rankedR s.ws s.e v n u) v n o:=by
 intro u x F w hP hu;cases hv:u.verb with
 |false=>exact rankedB_calls v n o u x F w hP hu hv
 |true=>exact rankedA_calls v n o u x F w hP hu hv
end Pz
end Go.Proofs.YtimcmghhbdfjfaaGreatDoor
