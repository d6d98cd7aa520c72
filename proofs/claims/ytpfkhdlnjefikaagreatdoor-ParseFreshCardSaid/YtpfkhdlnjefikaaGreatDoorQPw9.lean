/- Package parse: power, bond. -/
import Derived.Test.YtpfkhdlnjefikaaGreatDoorQPwAB
import Derived.RegionDies
set_option linter.unusedVariables false
set_option linter.unusedSimpArgs false
namespace Go.Proofs.YtpfkhdlnjefikaaGreatDoor
open Go.RowKit
namespace Pz
def CJoint (s:PS) (fn:FuncId) (r:W->Nat->Nat->U->R (T × Nat)) (v:W) (n o:Nat):Prop:=∀ (u:U) (x:UV) (F:List Nat) (w:World),PAt w s n o->UArg w s u x F->Calls Tryz.prog fn #[ptr s,wordV v,x.val] w (PT 65 s F w o (r v n o u))
set_option maxRecDepth 100000 in
set_option maxHeartbeats 2000000 in
theorem power_calls {s:PS} {f g:Nat} (hf:CEither s f) (hg:g<=f) (v:W) (n o:Nat) (hD:Deep o) (hn:need s.ws n 3<=g):CJoint s 210 (fun v n o u=>either s.ws s.e g v n o u 38 41) v n o:=by
 intro u x F w hP hu
 have HP:=hid hP
 have HU:=hid hu
 have HL:=hid hu.lt
 have HF:=hid (fun W (h:PAt W s n o) (hu:UArg W s u x F)=>hf g hg v n o u x F 38 41 W h hD hu hn (by omega) (by omega))
 unfold ptr wordV at HF ⊢
 simp only [UV.val,UV.cells] at HF ⊢
 clear hP hD hn hg hf hu
 cases hr:either s.ws s.e g v n o u 38 41 with
 |bad c p=>
  rw [hr] at HF
  clear hr
  go_enter Tryz.func210,Tryz.ntmps210
  go_upto_region 1 with fail
  generalize hW:World.alloc _ _=w0
  obtain ⟨hS,hXW,hXU,hU⟩:=frame HP.out v HU.out w0 hW.symm
  have S0:=hid hS;have XW0:=hid hXW;have XU0:=hid hXU;have U0:=hid hU
  clear hW hS hXW hXU hU;obtain ⟨xu0c0,xu0c1,xu0c2,xu0c3,xu0c4,xu0c5,xu0c6,xu0c7,xu0c8⟩:=XU0.out.box.ru x rfl;have xu0cf:=XU0.out.box.fz;have xu0cl:=XU0.out.box.lt;obtain ⟨xw0c0,xw0c1,xw0c2⟩:=XW0.out.box.rv v rfl;have xw0cf:=XW0.out.box.fz;have xw0cl:=XW0.out.box.lt
  go_wp2_with (first
   |(go_at_call 242;refine (HF.out _ (S0.out.at_.later (by go_grown)) (U0.out.later (by go_grown)).arg).mono ?_;intro e w9 hp;replace hp:=PT.from S0.out (by go_grown) hp;obtain ⟨rfl,hA⟩:=hp))
  all_goals exact ⟨rfl,rfl,S0.out.away.next hA⟩
 |ok r=>
  obtain ⟨t,m⟩:=r
  rw [hr] at HF
  clear hr
  go_enter Tryz.func210,Tryz.ntmps210
  go_upto_region 1 with fail
  generalize hW:World.alloc _ _=w0
  obtain ⟨hS,hXW,hXU,hU⟩:=frame HP.out v HU.out w0 hW.symm
  have S0:=hid hS;have XW0:=hid hXW;have XU0:=hid hXU;have U0:=hid hU
  clear hW hS hXW hXU hU;obtain ⟨xu0c0,xu0c1,xu0c2,xu0c3,xu0c4,xu0c5,xu0c6,xu0c7,xu0c8⟩:=XU0.out.box.ru x rfl;have xu0cf:=XU0.out.box.fz;have xu0cl:=XU0.out.box.lt;obtain ⟨xw0c0,xw0c1,xw0c2⟩:=XW0.out.box.rv v rfl;have xw0cf:=XW0.out.box.fz;have xw0cl:=XW0.out.box.lt
  go_wp2_with (first
   |(go_at_call 242;refine (HF.out _ (S0.out.at_.later (by go_grown)) (U0.out.later (by go_grown)).arg).mono ?_;intro e w1 hp;replace hp:=PT.from S0.out (by go_grown) hp;obtain ⟨y1,G1,rfl,hO,hG,hP,hA⟩:=hp;have S1:=hid (S0.out.moved hA hP);have T1:=hid (Tm.new S0.out hO hG HU.out.ne hA.size (fun b hb=>Nat.lt_of_lt_of_le (U0.out.old b hb) (Nat.le_trans U0.out.le U0.out.hi_)));obtain ⟨c0,c1,c2,c3,c4,c5⟩:=S1.out.box.rz rfl;have cf:=S1.out.box.fz;have cl:=S1.out.box.lt;clear hO hG hP hA;simp only [TV.val,TV.cells]))
  all_goals
   refine bodyPost_ret (v:=y1.val) (by simp [results,Tryz.results210,nodeV,TV.val,TV.cells,c0,c1,c2,c3,c4,c5,cf,go_sem]) rfl ?_
   exact T1.out.ends S1.out S0.out.box.lt HL.out _ _ _ _ _ _
set_option maxRecDepth 100000 in
set_option maxHeartbeats 2000000 in
theorem bond_calls {s:PS} {f g:Nat} (hf:CEither s f) (hb:CBehind s f) (hg:g<=f) (v:W) (n o:Nat) (hD:Deep o) (hn:need s.ws n 3<=g):CJoint s 209 (fun v n o u=>if u.operand then (behind s.ws s.e g n o).andThen fun x=>.ok (made 39 [u.t,x.1],x.2) else either s.ws s.e g v n o u 30 40) v n o:=by
 intro u x F w hP hu
 have HP:=hid hP
 have HU:=hid hu
 have HL:=hid hu.lt
 have HF:=hid (fun W (h:PAt W s n o) (hu:UArg W s u x F)=>hf g hg v n o u x F 30 40 W h hD hu hn (by omega) (by omega))
 have HB:=hid (fun W (h:PAt W s n o)=>hb g hg n o W h hD hn)
 unfold ptr at HB
 unfold ptr wordV at HF ⊢
 simp only [UV.val,UV.cells] at HF ⊢
 clear hP hD hn hg hf hu hb
 cases ho:u.operand with
 |false=>
  rw [if_neg (by simp)]
  cases hr:either s.ws s.e g v n o u 30 40 with
  |bad c p=>
   rw [hr] at HF
   clear hr
   go_enter Tryz.func209,Tryz.ntmps209
   go_upto_region 1 with fail
   generalize hW:World.alloc _ _=w0
   obtain ⟨hS,hXW,hXU,hU⟩:=frame HP.out v HU.out w0 hW.symm
   have S0:=hid hS;have XW0:=hid hXW;have XU0:=hid hXU;have U0:=hid hU
   clear hW hS hXW hXU hU;obtain ⟨xu0c0,xu0c1,xu0c2,xu0c3,xu0c4,xu0c5,xu0c6,xu0c7,xu0c8⟩:=XU0.out.box.ru x rfl;have xu0cf:=XU0.out.box.fz;have xu0cl:=XU0.out.box.lt
   go_wp2_with (first
    |(go_at_call 242;refine (HF.out _ (S1.out.at_.later (by go_grown)) (U1.out.later (by go_grown)).arg).mono ?_;intro e w9 hp;replace hp:=PT.from S1.out (by go_grown) hp;obtain ⟨rfl,hA⟩:=hp)
    |(go_at_call 241;refine (operand_is ho x _ _ (U0.out.later (by go_grown)).own).mono ?_;rintro e w1 ⟨rfl,hb⟩;have hb0:=hb;have hb:=Start.then S0.out hb (by go_grown);have S1:=hid (S0.out.later hb);have U1:=hid (U0.out.later hb);have XU1:=hid (XU0.out.later hb);have XW1:=hid (XW0.out.later hb);obtain ⟨xu1c0,xu1c1,xu1c2,xu1c3,xu1c4,xu1c5,xu1c6,xu1c7,xu1c8⟩:=XU1.out.box.ru x rfl;have xu1cf:=XU1.out.box.fz;have xu1cl:=XU1.out.box.lt;obtain ⟨xw1c0,xw1c1,xw1c2⟩:=XW1.out.box.rv v rfl;have xw1cf:=XW1.out.box.fz;have xw1cl:=XW1.out.box.lt;clear hb hb0))
   all_goals exact ⟨rfl,rfl,S1.out.away.next hA⟩
  |ok r=>
   obtain ⟨t,m⟩:=r
   rw [hr] at HF
   clear hr
   go_enter Tryz.func209,Tryz.ntmps209
   go_upto_region 1 with fail
   generalize hW:World.alloc _ _=w0
   obtain ⟨hS,hXW,hXU,hU⟩:=frame HP.out v HU.out w0 hW.symm
   have S0:=hid hS;have XW0:=hid hXW;have XU0:=hid hXU;have U0:=hid hU
   clear hW hS hXW hXU hU;obtain ⟨xu0c0,xu0c1,xu0c2,xu0c3,xu0c4,xu0c5,xu0c6,xu0c7,xu0c8⟩:=XU0.out.box.ru x rfl;have xu0cf:=XU0.out.box.fz;have xu0cl:=XU0.out.box.lt
   go_wp2_with (first
    |(go_at_call 242;refine (HF.out _ (S1.out.at_.later (by go_grown)) (U1.out.later (by go_grown)).arg).mono ?_;intro e w2 hp;replace hp:=PT.from S1.out (by go_grown) hp;obtain ⟨y2,G2,rfl,hO,hG,hP,hA⟩:=hp;have S2:=hid (S1.out.moved hA hP);have T2:=hid (Tm.new S1.out hO hG HU.out.ne hA.size (fun b hb=>Nat.lt_of_lt_of_le (U1.out.old b hb) (Nat.le_trans U1.out.le U1.out.hi_)));obtain ⟨c0,c1,c2,c3,c4,c5⟩:=S2.out.box.rz rfl;have cf:=S2.out.box.fz;have cl:=S2.out.box.lt;clear hO hG hP hA;simp only [TV.val,TV.cells])
    |(go_at_call 241;refine (operand_is ho x _ _ (U0.out.later (by go_grown)).own).mono ?_;rintro e w1 ⟨rfl,hb⟩;have hb0:=hb;have hb:=Start.then S0.out hb (by go_grown);have S1:=hid (S0.out.later hb);have U1:=hid (U0.out.later hb);have XU1:=hid (XU0.out.later hb);have XW1:=hid (XW0.out.later hb);obtain ⟨xu1c0,xu1c1,xu1c2,xu1c3,xu1c4,xu1c5,xu1c6,xu1c7,xu1c8⟩:=XU1.out.box.ru x rfl;have xu1cf:=XU1.out.box.fz;have xu1cl:=XU1.out.box.lt;obtain ⟨xw1c0,xw1c1,xw1c2⟩:=XW1.out.box.rv v rfl;have xw1cf:=XW1.out.box.fz;have xw1cl:=XW1.out.box.lt;clear hb hb0))
   all_goals
    refine bodyPost_ret (v:=y2.val) (by simp [results,Tryz.results209,nodeV,TV.val,TV.cells,c0,c1,c2,c3,c4,c5,cf,go_sem]) rfl ?_
    exact T2.out.ends S2.out (Nat.lt_of_lt_of_le S0.out.box.lt (Nat.le_trans U1.out.le U1.out.hi_)) HL.out _ _ _ _ _ _
 |true=>
  rw [if_pos rfl]
  cases hr:behind s.ws s.e g n o with
  |bad c p=>
   rw [hr] at HB
   clear hr
   go_enter Tryz.func209,Tryz.ntmps209
   go_upto_region 1 with fail
   generalize hW:World.alloc _ _=w0
   obtain ⟨hS,hXW,hXU,hU⟩:=frame HP.out v HU.out w0 hW.symm
   have S0:=hid hS;have XW0:=hid hXW;have XU0:=hid hXU;have U0:=hid hU
   clear hW hS hXW hXU hU;obtain ⟨xu0c0,xu0c1,xu0c2,xu0c3,xu0c4,xu0c5,xu0c6,xu0c7,xu0c8⟩:=XU0.out.box.ru x rfl;have xu0cf:=XU0.out.box.fz;have xu0cl:=XU0.out.box.lt
   go_wp2_with (first
    |(go_at_call 241;refine (operand_is ho x _ _ (U0.out.later (by go_grown)).own).mono ?_;rintro e w1 ⟨rfl,hb⟩;have hb0:=hb;have hb:=Start.then S0.out hb (by go_grown);have S1:=hid (S0.out.later hb);have U1:=hid (U0.out.later hb);have XU1:=hid (XU0.out.later hb);have XW1:=hid (XW0.out.later hb);obtain ⟨xu1c0,xu1c1,xu1c2,xu1c3,xu1c4,xu1c5,xu1c6,xu1c7,xu1c8⟩:=XU1.out.box.ru x rfl;have xu1cf:=XU1.out.box.fz;have xu1cl:=XU1.out.box.lt;clear hb hb0))
   all_goals go_region_dies
   all_goals
    go_wp2_with (first
     |(go_at_call 208;refine (HB.out _ (S1.out.at_.later (by go_grown))).mono ?_;intro e w9 hp;replace hp:=PT.from S1.out (by go_grown) hp;obtain ⟨rfl,hA⟩:=hp))
   all_goals exact ⟨rfl,rfl,S1.out.away.next hA⟩
  |ok r=>
   obtain ⟨t,m⟩:=r
   rw [hr] at HB
   clear hr
   go_enter Tryz.func209,Tryz.ntmps209
   go_upto_region 1 with fail
   generalize hW:World.alloc _ _=w0
   obtain ⟨hS,hXW,hXU,hU⟩:=frame HP.out v HU.out w0 hW.symm
   have S0:=hid hS;have XW0:=hid hXW;have XU0:=hid hXU;have U0:=hid hU
   clear hW hS hXW hXU hU;obtain ⟨xu0c0,xu0c1,xu0c2,xu0c3,xu0c4,xu0c5,xu0c6,xu0c7,xu0c8⟩:=XU0.out.box.ru x rfl;have xu0cf:=XU0.out.box.fz;have xu0cl:=XU0.out.box.lt
   go_wp2_with (first
    |(go_at_call 241;refine (operand_is ho x _ _ (U0.out.later (by go_grown)).own).mono ?_;rintro e w1 ⟨rfl,hb⟩;have hb0:=hb;have hb:=Start.then S0.out hb (by go_grown);have S1:=hid (S0.out.later hb);have U1:=hid (U0.out.later hb);have XU1:=hid (XU0.out.later hb);have XW1:=hid (XW0.out.later hb);obtain ⟨xu1c0,xu1c1,xu1c2,xu1c3,xu1c4,xu1c5,xu1c6,xu1c7,xu1c8⟩:=XU1.out.box.ru x rfl;have xu1cf:=XU1.out.box.fz;have xu1cl:=XU1.out.box.lt;clear hb hb0))
   all_goals
    go_region_with (first
     |(go_at_call 148;obtain ⟨_,TT0,-⟩:=U2.out.term;refine (made_calls' _ _ _ _ _).mono ?_;rintro e w3 ⟨rfl,hb⟩;have hb0:=hb;have hb:=Start.then S2.out hb (by go_grown);have S3:=hid (S2.out.later hb);have N3:=hid ((Tm.node2 (k:=39) TT0 T2.out ⟨by omega,by omega⟩ S2.out.at_.lt U1.out.hi_).later hb0);obtain ⟨c0,c1,c2,c3,c4,c5⟩:=S3.out.box.rz rfl;have cf:=S3.out.box.fz;have cl:=S3.out.box.lt;clear hb hb0;simp only [nodeV,TV.val,TV.cells])
     |(go_at_call 208;refine (HB.out _ (S1.out.at_.later (by go_grown))).mono ?_;intro e w2 hp;replace hp:=PT.from S1.out (by go_grown) hp;obtain ⟨y2,G2,rfl,hO,hG,hP,hA⟩:=hp;have S2:=hid (S1.out.moved hA hP);have T2:=hid (Tm.new S1.out hO hG (by simp) hA.size (by simp));have U2:=hid (U1.out.moved hA);have XU2:=hid (XU1.out.moved hA);obtain ⟨xu2c0,xu2c1,xu2c2,xu2c3,xu2c4,xu2c5,xu2c6,xu2c7,xu2c8⟩:=XU2.out.box.ru x rfl;have xu2cf:=XU2.out.box.fz;have xu2cl:=XU2.out.box.lt;clear hO hG hP hA;simp only [TV.val,TV.cells]))
   all_goals go_wp2_with fail
   all_goals
    refine bodyPost_ret (v:=(nodeV 39 0 ⟨#[]⟩ (some ⟨w2.heap.size,0,none⟩) 2 2).val) (by simp [results,Tryz.results209,nodeV,TV.val,TV.cells,c0,c1,c2,c3,c4,c5,cf,go_sem]) rfl ?_
    exact N3.out.ends S3.out S0.out.box.lt HL.out _ _ _ _ _ _
end Pz
end Go.Proofs.YtpfkhdlnjefikaaGreatDoor
