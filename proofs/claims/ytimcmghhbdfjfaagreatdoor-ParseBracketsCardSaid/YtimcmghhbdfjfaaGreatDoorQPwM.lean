/- Package parse. -/
import Derived.Test.YtimcmghhbdfjfaaGreatDoorQPwAN
set_option linter.unusedVariables false
set_option linter.unusedSimpArgs false
set_option maxRecDepth 100000
set_option maxHeartbeats 6000000
namespace Go.Proofs.YtimcmghhbdfjfaaGreatDoor
open Go.RowKit
namespace Pz
theorem own_zero (w:World):Own w (.mk 0 ⟨#[]⟩ 0 [] [] []) (nodeV 0 0 ⟨#[]⟩ none 0 0) []:=
 own_node (k:=0) (n:=0) (s:=⟨#[]⟩) (⟨rfl,[],[],.nil _,.inl ⟨rfl,rfl,rfl⟩⟩:OwnR w none 0 0 [] []) (by decide) (by decide) (by decide) (by decide) (by decide) (by decide) (qa _) (by decide)
def capV (at_:Int):UV:=⟨nodeV 0 0 ⟨#[]⟩ none 0 0,none,0,0,true,at_⟩
theorem Un.cap (s:PS) (w:World) (lo:Nat) (h:lo<=w.heap.size) (at_:Int):Un s [] lo lo w ⟨.mk 0 ⟨#[]⟩ 0 [] [] [],none,true,at_⟩ (capV at_) []:=
 ⟨⟨⟨[],[],rfl,own_zero w,rfl,rfl,rfl,rfl⟩,rfl,rfl⟩,⟨List.nodup_nil,fun b hb=>by cases hb⟩,h,by simp,qa _,fun b hb=>by cases hb⟩
theorem behindU_end {ws:List W} {e g n o:Nat} {at_:Int} {u:U} (h:∀ v,ws[n]? =some v->v.kind≠5/\(v.kind≠6\/v.text=[96])):behindU ws e (g+1) at_ n o u=if u.gerund.isSome then .bad 32 (place ws e n) else .ok (u,n):=by
 rw [behindU];cases hv:ws[n]? with
 |none=>rfl
 |some v=>dsimp only;rw [if_pos (h v hv)]
theorem unit_step {s:PS} {f:Nat} (hp:CPrimary s f) (hc:CConj s f):CUnit s (f+1):=by
 intro g hg n o w hP hD hl hn;cases g with
 |zero=>unfold need at hn;omega
 |succ g=>
  have S0:=hid (Start.new hP zeroU 145);have HSe:=hid (fun W (h:PAt W s n o)=>sees_calls s n o [91,58] W h);have HF:=hid (fun W (h:PAt W s n o)=>hp g (by omega) n o W h hD hl (by unfold need at hn ⊢;omega));have HCJ:=hid hc;have HDp:=hid hD;have HG:=hid (show g<=f from by omega);have HN:=hid hn;have HW:=hid (show wrap64 ((n:Int)+1)=((n+1:Nat):Int) from wrap_succ (by have:=hP.ok.len;omega));have HLen:=hid hl;have HOk:=hid hP.ok;simp only [unit];unfold ptr at HF ⊢;clear hP hD hn hg hp hc hl;cases hs:sees s.ws n [91,58] with
  |true=>
   rw [if_pos rfl];rw [hs] at HSe;clear hs;go_enter Tryz.func103,Tryz.ntmps103
   go_upto_region 4 with (first
    |(go_at_call 122;refine (HSe.out _ (S1.at_.later (by go_grown))).mono ?_;rintro e w2 ⟨rfl,hb⟩;have hb0:=hb;have hb:=Start.then S1.out hb (by go_grown);have S2:=hid (S1.later hb);have p2c1:=S2.at_.c1;have p2cf:=S2.at_.fz;clear hb hb0)
    |(go_at_call 29;refine (place_calls s _ _ _ (S0.at_.later (by go_grown))).mono ?_;rintro e w1 ⟨rfl,hb⟩;have hb0:=hb;have hb:=Start.then S0.out hb (by go_grown);have S1:=hid (S0.later hb);clear hb hb0))
   generalize hWn:World.setCell w2 _ _=w3;have hAn:Away s.pb w2.heap.size w2 w3:=hWn▸(Away.refl _ _ _).setCell (q:=⟨s.pb,1,none⟩) (.inl rfl) _;have hPn:=S2.at_.next (n+1) (v:=.int .i64 (wrap64 ((n:Int)+1))) (by rw [HW.out]);rw [hWn] at hPn;have S3:=hid (S2.moved hAn hPn);obtain ⟨c0,c1,c2,c3,c4,c5,c6,c7,c8⟩:=S3.box.r9 (.int .i64 0) (.string ⟨#[]⟩) (.int .i64 0) (.slice none 0 0) (.slice none 0 0) (.slice none 0 0) (.slice none 0 0) (.bool false) (.int .i64 0) rfl;have cf:=S3.box.fz;have cl:=S3.box.lt;clear hAn hPn hWn;go_wp2_with fail
   refine bodyPost_ret (v:=(capV (place s.ws s.e n)).val) (by simp [results,Tryz.results103,capV,nodeV,UV.val,UV.cells,c0,c1,c2,c3,c4,c5,c6,c7,c8,cf,go_sem]) rfl ?_;exact (Un.cap s w3 _ S3.box.lt (place s.ws s.e n)).ends S3.out (Nat.lt_succ_self _) _ _ _ _ _ _ _ _ _
  |false=>
   rw [if_neg (by simp)];rw [hs] at HSe;clear hs;cases hr:primary s.ws s.e g n o with
   |bad c p=>
    rw [hr] at HF;clear hr;go_enter Tryz.func103,Tryz.ntmps103
    go_wp2_with (first
     |(go_at_call 123;refine (HF.out _ (S2.at_.later (by go_grown))).mono ?_;intro e w9 hp;replace hp:=PU.from S2.out (by go_grown) hp;obtain ⟨rfl,hA⟩:=hp)
     |(go_at_call 122;refine (HSe.out _ (S1.at_.later (by go_grown))).mono ?_;rintro e w2 ⟨rfl,hb⟩;have hb0:=hb;have hb:=Start.then S1.out hb (by go_grown);have S2:=hid (S1.later hb);clear hb hb0)
     |(go_at_call 29;refine (place_calls s _ _ _ (S0.at_.later (by go_grown))).mono ?_;rintro e w1 ⟨rfl,hb⟩;have hb0:=hb;have hb:=Start.then S0.out hb (by go_grown);have S1:=hid (S0.later hb);clear hb hb0))
    all_goals exact ⟨rfl,rfl,S2.away.next hA⟩
   |ok r=>
    obtain ⟨u0,m0⟩:=r;rw [hr] at HF;have hs0:=(sound (fun i w h=>(HOk.word i w h).1) g).primary n o HLen.out (by have:=HN.out;unfold need at this ⊢;omega);rw [hr] at hs0;have HM0:=hid (show n<m0/\m0<=s.ws.length from hs0.2);clear hr hs0;simp only [R.andThen];obtain ⟨R0,hR0⟩:∃ R0,behindU s.ws s.e g (place s.ws s.e n) m0 o u0=R0:=⟨_,rfl⟩;rw [hR0];have HR0:=hid hR0;clear hR0;go_enter Tryz.func103,Tryz.ntmps103
    go_wp2_with (first
     |(go_at_call 123;refine (HF.out _ (S2.at_.later (by go_grown))).mono ?_;intro e w3 hp;replace hp:=PU.from S2.out (by go_grown) hp;obtain ⟨y3,G3,rfl,hO,hG,hP,hA⟩:=hp;have S3:=hid (S2.moved hA hP);have U3:=hid (Un.new S2.out hO hG (by simp) hA.size (by simp));clear hO hG hP hA;simp only [UV.val,UV.cells])
     |(go_at_call 122;refine (HSe.out _ (S1.at_.later (by go_grown))).mono ?_;rintro e w2 ⟨rfl,hb⟩;have hb0:=hb;have hb:=Start.then S1.out hb (by go_grown);have S2:=hid (S1.later hb);clear hb hb0)
     |(go_at_call 29;refine (place_calls s _ _ _ (S0.at_.later (by go_grown))).mono ?_;rintro e w1 ⟨rfl,hb⟩;have hb0:=hb;have hb:=Start.then S0.out hb (by go_grown);have S1:=hid (S0.later hb);clear hb hb0))
    have HUL:=hid (show ULoop s w o w.heap.size w3.heap.size (place s.ws s.e n) R0 g m0 u0 y3 (w3.alloc (.cells y3.cells 145)) from
     ⟨S3.later ((qb _ _).alloc (qa _) _),Bx.new S3.out _ _,⟨_,_,_,U3.later ((qb _ _).alloc (qa _) _),S2.box.lt,fun hb=>Nat.lt_irrefl _ (U3.own.lt _ hb),by have:=U3.le;have:=U3.hi_;omega⟩,S3.lo (qa _),⟨g,qa _,by have:=HN.out;have:=HM0.out;unfold need at*;omega,HR0.out⟩,HM0.out.2⟩)
    go_loopw [5] (fun _ w4=>∃ (n1:Nat) (u:U) (x:UV),ULoop s w o w.heap.size w3.heap.size (place s.ws s.e n) R0 g n1 u x w4) (fun _ wr=>s.ws.length-nextOf s.pb wr)
    case atStart=>exact ⟨_,_,_,HUL.out⟩
    case round=>
     obtain ⟨w4,hw4⟩:∃ w4,w4=wr:=⟨_,rfl⟩;subst hw4;obtain ⟨n1,u,x,hul⟩:=hrel;have S4:=hid hul.start;have XU4:=hid hul.box;obtain ⟨lo1,hi1,G1,hUn,hlo1,hub,hlo2⟩:=hul.un;obtain ⟨g1,hg1,hn1,heq⟩:=hul.eq;have UN4:=hid hUn;have HLO1:=hid hlo1;have HUB:=hid (And.intro hub hlo2);have HLO:=hid hul.lo;have HLN:=hid hul.len;have HG1:=hid (And.intro hg1 hn1);have HNX:=hid hul.start.at_.nextOf;have h0:=hul.start.at_.c0;have h1:=hul.start.at_.c1;clear hul hUn hlo1 hub hlo2;cases g1 with
     |zero=>unfold need at hn1;omega
     |succ g1=>
      clear hg1 hn1;by_cases hm:n1<s.ws.length
      ·obtain ⟨v1,hv1⟩:∃ v1,s.ws[n1]? =some v1:=⟨_,List.getElem?_eq_getElem hm⟩
       have HV:=hid hv1;have HOK:=hid (HOk.word n1 v1 hv1).2;obtain ⟨hwa,-⟩:=S4.at_.word hv1;rw [hwa] at h0;go_wp2_with fail
       go_quiet (fail);generalize hWq:World.drewN w4 _=w5;have hbq:Below w4.heap.size w4 w5:=hWq▸below_drewN (qb _ _) _;have S5:=hid (S4.later hbq);have XU5:=hid (XU4.later hbq);have UN5:=hid (UN4.later hbq);clear hbq hWq;clear h0 h1;have h0:=S5.at_.c0;have h1:=S5.at_.c1;obtain ⟨-,k0,k1,k2⟩:=S5.at_.word HV.out;rw [hwa] at h0;have hpb:=S5.at_.lt;have hwb:s.wb<w5.heap.size:=qc _ _ k0;go_wp2_with fail
       go_region
       generalize hWa:World.drew (World.alloc w5 _)=w6;have hb6:Below w5.heap.size w5 w6:=hWa▸((qb _ _).alloc (qa _) _).drew;have XW6:=hid (show Bx s w6 w5.heap.size (wcells v1) from by
        rw [<-hWa];exact (Bx.new S5.out (wcells v1) 67).later ((qb _ _).drew))
       have S6:=hid (S5.later hb6);have XU6:=hid (XU5.later hb6);have UN6:=hid (UN5.later hb6);clear hWa hb6 h0 h1 k0 k1 k2 hpb hwb;obtain ⟨xu6c0,xu6c1,xu6c2,xu6c3,xu6c4,xu6c5,xu6c6,xu6c7,xu6c8⟩:=XU6.box.ru x rfl;have xu6cf:=XU6.box.fz;have xu6cl:=XU6.box.lt;obtain ⟨xw6c0,xw6c1,xw6c2⟩:=XW6.box.rv v1 rfl;have xw6cf:=XW6.box.fz;have xw6cl:=XW6.box.lt;have hne:=UN6.own.neS;by_cases hbr:v1.kind≠5/\(v1.kind≠6\/v1.text=[96])
       ·rw [behindU_end (fun v hv=>by rw [hv1] at hv;cases hv;exact hbr)] at heq
        have d5:(v1.kind !=5)=true:=by simp [hbr.1]
        clear hv1;by_cases h6:v1.kind=6
        ·have d6:(v1.kind !=6)=false:=by simp [h6]
         have h96:v1.text=[96]:=hbr.2.resolve_left (fun h=>h h6);have d96:((bytes v1.text).toList==[96])=true:=by rw [text_beq];simp [h96]
         clear hbr h6 h96;cases hgs:u.gerund.isSome with
         |true=>
          rw [hgs] at hne heq;rw [if_pos rfl] at heq;have HEq:=hid heq;clear heq;go_wp2_with (first
           |(go_at_call 27;refine (wrong_calls _ _).mono ?_;rintro e w9 ⟨rfl,rfl⟩)
           |(go_at_call 29;refine (place_calls s _ _ _ (S6.at_.later (by go_grown))).mono ?_;rintro e w8 ⟨rfl,hb⟩;have hb0:=hb;have hb:=Start.then S6.out hb (by go_grown);have S8:=hid (S6.later hb);clear hb hb0))
          all_goals exact ⟨rfl,by rw [<-HEq.out];exact ⟨rfl,S8.away⟩⟩
         |false=>
          rw [hgs] at hne heq;rw [if_neg (by simp)] at heq;have HEq:=hid heq;clear heq;obtain ⟨c0,c1,c2,c3,c4,c5,c6,c7,c8⟩:=S6.box.r9 (.int .i64 0) (.string ⟨#[]⟩) (.int .i64 0) (.slice none 0 0) (.slice none 0 0) (.slice none 0 0) (.slice none 0 0) (.bool false) (.int .i64 0) rfl;have cf:=S6.box.fz;have cl:=S6.box.lt;go_wp2_with fail
          refine bodyPost_ret (v:=x.val) (by simp [results,Tryz.results103,nodeV,UV.val,UV.cells,c0,c1,c2,c3,c4,c5,c6,c7,c8,cf,go_sem]) rfl ?_;rw [<-HEq.out];exact UN6.ends S6.out HLO1.out _ _ _ _ _ _ _ _ _
        ·have d6:(v1.kind !=6)=true:=by simp [h6]
         clear hbr h6;cases hgs:u.gerund.isSome with
         |true=>
          rw [hgs] at hne heq;rw [if_pos rfl] at heq;have HEq:=hid heq;clear heq;go_wp2_with (first
           |(go_at_call 27;refine (wrong_calls _ _).mono ?_;rintro e w9 ⟨rfl,rfl⟩)
           |(go_at_call 29;refine (place_calls s _ _ _ (S6.at_.later (by go_grown))).mono ?_;rintro e w8 ⟨rfl,hb⟩;have hb0:=hb;have hb:=Start.then S6.out hb (by go_grown);have S8:=hid (S6.later hb);clear hb hb0))
          all_goals exact ⟨rfl,by rw [<-HEq.out];exact ⟨rfl,S8.away⟩⟩
         |false=>
          rw [hgs] at hne heq;rw [if_neg (by simp)] at heq;have HEq:=hid heq;clear heq;obtain ⟨c0,c1,c2,c3,c4,c5,c6,c7,c8⟩:=S6.box.r9 (.int .i64 0) (.string ⟨#[]⟩) (.int .i64 0) (.slice none 0 0) (.slice none 0 0) (.slice none 0 0) (.slice none 0 0) (.bool false) (.int .i64 0) rfl;have cf:=S6.box.fz;have cl:=S6.box.lt;go_wp2_with fail
          refine bodyPost_ret (v:=x.val) (by simp [results,Tryz.results103,nodeV,UV.val,UV.cells,c0,c1,c2,c3,c4,c5,c6,c7,c8,cf,go_sem]) rfl ?_;rw [<-HEq.out];exact UN6.ends S6.out HLO1.out _ _ _ _ _ _ _ _ _
       ·rw [behindU,hv1] at heq
        dsimp only at heq;rw [if_neg hbr] at heq;clear hv1;by_cases hger:u.gerund.isSome=true/\v1.text≠[64,46]
        ·rw [if_pos hger] at heq
         have HEq:=hid heq;rw [hger.1] at hne;have d64:((bytes v1.text).toList==[64,46])=false:=by rw [text_beq];simp [hger.2]
         by_cases h5:v1.kind=5
         ·have d5:(v1.kind !=5)=false:=by simp [h5]
          clear hger heq hbr h5;go_wp2_with (first
           |(go_at_call 27;refine (wrong_calls _ _).mono ?_;rintro e w9 ⟨rfl,rfl⟩))
          all_goals exact ⟨rfl,by rw [<-HEq.out];exact ⟨rfl,S6.away⟩⟩
         ·have d5:(v1.kind !=5)=true:=by simp [h5]
          have hx:v1.kind=6/\v1.text≠[96]:=⟨Decidable.byContradiction (fun h=>hbr ⟨h5,.inl h⟩),fun h=>hbr ⟨h5,.inr h⟩⟩;have d6:(v1.kind !=6)=false:=by simp [hx.1]
          have d96:((bytes v1.text).toList==[96])=false:=by rw [text_beq];simp [hx.2]
          clear hger heq hbr h5 hx;go_wp2_with (first
           |(go_at_call 27;refine (wrong_calls _ _).mono ?_;rintro e w9 ⟨rfl,rfl⟩))
          all_goals exact ⟨rfl,by rw [<-HEq.out];exact ⟨rfl,S6.away⟩⟩
        ·rw [if_neg hger] at heq
         have HW1:=hid (show wrap64 ((n1:Int)+1)=((n1+1:Nat):Int) from wrap_succ (by have:=HOk.len;omega));have p6c1:=S6.at_.c1;have p6cf:=S6.at_.fz;by_cases h5:v1.kind=5
         ·rw [if_pos h5] at heq
          have d5:(v1.kind !=5)=false:=by simp [h5]
          have d5':(v1.kind==5)=true:=by simp [h5]
          have hgn:u.gerund.isSome=false:=by
           cases hg:u.gerund.isSome with
           |false=>rfl
           |true=>exact absurd ⟨hg,fun e=>by have:=HOK.k5 h5;rw [e] at this;revert this;decide⟩ hger
          rw [hgn] at hne;have H5:=hid h5;clear h5 hbr hger;go_upto_region 12 with fail
          generalize hWn:World.setCell w6 _ _=w7;have hAn:Away s.pb w6.heap.size w6 w7:=hWn▸(Away.refl _ _ _).setCell (q:=⟨s.pb,1,none⟩) (.inl rfl) _;have hPn:=S6.at_.next (n1+1) (v:=.int .i64 (wrap64 ((n1:Int)+1))) (by rw [HW1.out]);rw [hWn] at hPn;have S7:=hid (S6.moved hAn hPn);have XU7:=hid (XU6.moved hAn);have UN7:=hid (UN6.moved hAn);have XW7:=hid (XW6.moved hAn);obtain ⟨xu7c0,xu7c1,xu7c2,xu7c3,xu7c4,xu7c5,xu7c6,xu7c7,xu7c8⟩:=XU7.box.ru x rfl;have xu7cf:=XU7.box.fz;have xu7cl:=XU7.box.lt;obtain ⟨xw7c0,xw7c1,xw7c2⟩:=XW7.box.rv v1 rfl;have xw7cf:=XW7.box.fz;have xw7cl:=XW7.box.lt;clear hAn hPn hWn;have HAd:=hid (fun W (hP:PAt W s (n1+1) o) (hu:UArg W s u x G1)=>adverb_calls v1 (n1+1) o (HOK.k5 H5.out) (adv_len (HOK.k5 H5.out)) u x G1 W hP hu);unfold wordV at HAd;simp only [UV.val,UV.cells] at HAd;cases hra:adverb v1 u with
          |bad c p=>
           rw [hra] at HAd heq;have HEq:=hid heq;clear hra heq;go_wp2_with (first
            |(go_at_call 124;refine (HAd.out _ (S7.at_.later (by go_grown)) (UN7.later (by go_grown)).arg).mono ?_;intro e w8 hp;replace hp:=PT.from S7.out (by go_grown) hp;obtain ⟨rfl,hA⟩:=hp))
           all_goals exact ⟨rfl,by rw [<-HEq.out];exact ⟨rfl,S7.away.next hA⟩⟩
          |ok t8=>
           rw [hra] at HAd heq;have HEq:=hid heq;clear hra heq;go_wp2_with (first
            |(go_at_call 124;refine (HAd.out _ (S7.at_.later (by go_grown)) (UN7.later (by go_grown)).arg).mono ?_;intro e w8 hp;replace hp:=PT.from S7.out (by go_grown) hp;obtain ⟨y8,G8,rfl,hO,hG,hP,hA⟩:=hp;have S8:=hid (S7.moved hA hP);have T8:=hid (Tm.new S7.out hO hG UN7.np hA.size (fun b hb=>UN7.own.lt b hb));have XU8:=hid (XU7.moved hA);clear hO hG hP hA;simp only [TV.val,TV.cells];obtain ⟨xu8c0,xu8c1,xu8c2,xu8c3,xu8c4,xu8c5,xu8c6,xu8c7,xu8c8⟩:=XU8.box.ru x rfl;have xu8cf:=XU8.box.fz;have xu8cl:=XU8.box.lt))
           go_roundw
           case rel=>
            have hq:=unit_stored (at_:=place s.ws s.e n) S8.out XU8.out HLO.out T8.out UN7.from_ HUB.out.1 XU7.box.lt (by have:=HUB.out.2;have:=XU7.box.lt;omega) (by have:=UN7.hi_;have:=T8.le;omega) _ rfl;obtain ⟨q1,q2,q3,q4⟩:=hq
            with_reducible refine ⟨n1+1,_,_,⟨q1,q2,⟨_,_,_,q3,HLO1.out,q4,HUB.out.2⟩,HLO.out,⟨g1,?_,?_,?_⟩,?_⟩⟩
            ·have:=HG1.out;omega
            ·exact (by have:=HG1.out;unfold need at*;omega)
            ·exact HEq.out
            ·exact by omega
           case measure=>
            have hq:=unit_stored (at_:=place s.ws s.e n) S8.out XU8.out HLO.out T8.out UN7.from_ HUB.out.1 XU7.box.lt (by have:=HUB.out.2;have:=XU7.box.lt;omega) (by have:=UN7.hi_;have:=T8.le;omega) _ rfl;rw [hq.1.at_.nextOf,HNX.out];omega
         ·rw [if_neg h5] at heq
          have d5:(v1.kind !=5)=true:=by simp [h5]
          have d5':(v1.kind==5)=false:=by simp [h5]
          have h6:v1.kind=6:=Decidable.byContradiction (fun h=>hbr ⟨h5,.inl h⟩);have h96:v1.text≠[96]:=fun h=>hbr ⟨h5,.inr h⟩;have d6:(v1.kind !=6)=false:=by simp [h6]
          have d96:((bytes v1.text).toList==[96])=false:=by rw [text_beq];simp [h96]
          have H6:=hid h6;have H96:=hid h96;clear h6 h96 h5 hbr;cases hgn:u.gerund.isSome with
          |false=>
           rw [hgn] at hne;clear hger;go_upto_region 12 with fail
           generalize hWn:World.setCell w6 _ _=w7;have hAn:Away s.pb w6.heap.size w6 w7:=hWn▸(Away.refl _ _ _).setCell (q:=⟨s.pb,1,none⟩) (.inl rfl) _;have hPn:=S6.at_.next (n1+1) (v:=.int .i64 (wrap64 ((n1:Int)+1))) (by rw [HW1.out]);rw [hWn] at hPn;have S7:=hid (S6.moved hAn hPn);have XU7:=hid (XU6.moved hAn);have UN7:=hid (UN6.moved hAn);have XW7:=hid (XW6.moved hAn);obtain ⟨xu7c0,xu7c1,xu7c2,xu7c3,xu7c4,xu7c5,xu7c6,xu7c7,xu7c8⟩:=XU7.box.ru x rfl;have xu7cf:=XU7.box.fz;have xu7cl:=XU7.box.lt;obtain ⟨xw7c0,xw7c1,xw7c2⟩:=XW7.box.rv v1 rfl;have xw7cf:=XW7.box.fz;have xw7cl:=XW7.box.lt;clear hAn hPn hWn;have hcon:=HOK.k6 H6.out;have HC8:=hid (fun W (hP:PAt W s (n1+1) o) (hu:UArg W s u x G1)=>HCJ.out g1 (by have:=HG1.out;have:=HG.out;omega) v1 (n1+1) o u x G1 W hP HDp.out hu ⟨hcon,H96.out,con_len hcon⟩ (by have:=HG1.out;unfold need at*;omega));have hs8:=(sound (fun i w h=>(HOk.word i w h).1) g1).conj v1 (n1+1) o u (HOk.word n1 v1 HV.out).1 (by have:=HG1.out;unfold need at*;omega);unfold ptr wordV at HC8;simp only [UV.val,UV.cells] at HC8;clear hcon;cases hra:conjunction s.ws s.e g1 v1 (n1+1) o u with
           |bad c p=>
            rw [hra] at HC8 heq;have HEq:=hid heq;clear hra heq hs8;go_wp2_with (first
             |(go_at_call 125;refine (HC8.out _ (S7.at_.later (by go_grown)) (UN7.later (by go_grown)).arg).mono ?_;intro e w8 hp;replace hp:=PT.from S7.out (by go_grown) hp;obtain ⟨rfl,hA⟩:=hp))
            all_goals exact ⟨rfl,by rw [<-HEq.out];exact ⟨rfl,S7.away.next hA⟩⟩
           |ok r8=>
            obtain ⟨t8,m8⟩:=r8;rw [hra] at HC8 heq hs8;have HM8:=hid (show n1+1<m8/\m8<=s.ws.length from hs8);have HEq:=hid heq;clear hra heq hs8;go_wp2_with (first
             |(go_at_call 125;refine (HC8.out _ (S7.at_.later (by go_grown)) (UN7.later (by go_grown)).arg).mono ?_;intro e w8 hp;replace hp:=PT.from S7.out (by go_grown) hp;obtain ⟨y8,G8,rfl,hO,hG,hP,hA⟩:=hp;have S8:=hid (S7.moved hA hP);have T8:=hid (Tm.new S7.out hO hG UN7.np hA.size (fun b hb=>UN7.own.lt b hb));have XU8:=hid (XU7.moved hA);clear hO hG hP hA;simp only [TV.val,TV.cells];obtain ⟨xu8c0,xu8c1,xu8c2,xu8c3,xu8c4,xu8c5,xu8c6,xu8c7,xu8c8⟩:=XU8.box.ru x rfl;have xu8cf:=XU8.box.fz;have xu8cl:=XU8.box.lt))
            go_roundw
            case rel=>
             have hq:=unit_stored (at_:=place s.ws s.e n) S8.out XU8.out HLO.out T8.out UN7.from_ HUB.out.1 XU7.box.lt (by have:=HUB.out.2;have:=XU7.box.lt;omega) (by have:=UN7.hi_;have:=T8.le;omega) _ rfl;obtain ⟨q1,q2,q3,q4⟩:=hq
             with_reducible refine ⟨m8,_,_,⟨q1,q2,⟨_,_,_,q3,HLO1.out,q4,HUB.out.2⟩,HLO.out,⟨g1,?_,?_,?_⟩,?_⟩⟩
             ·have:=HG1.out;omega
             ·exact (by have:=HG1.out;have:=HM8.out;unfold need at*;omega)
             ·exact HEq.out
             ·exact HM8.out.2
            case measure=>
             have hq:=unit_stored (at_:=place s.ws s.e n) S8.out XU8.out HLO.out T8.out UN7.from_ HUB.out.1 XU7.box.lt (by have:=HUB.out.2;have:=XU7.box.lt;omega) (by have:=UN7.hi_;have:=T8.le;omega) _ rfl;rw [hq.1.at_.nextOf,HNX.out];have:=HM8.out;omega
          |true=>
           rw [hgn] at hne;have h64:v1.text=[64,46]:=Decidable.byContradiction (fun h=>hger ⟨hgn,h⟩);have d64:((bytes v1.text).toList==[64,46])=true:=by rw [text_beq];simp [h64]
           clear h64 hger;go_upto_region 12 with fail
           generalize hWn:World.setCell w6 _ _=w7;have hAn:Away s.pb w6.heap.size w6 w7:=hWn▸(Away.refl _ _ _).setCell (q:=⟨s.pb,1,none⟩) (.inl rfl) _;have hPn:=S6.at_.next (n1+1) (v:=.int .i64 (wrap64 ((n1:Int)+1))) (by rw [HW1.out]);rw [hWn] at hPn;have S7:=hid (S6.moved hAn hPn);have XU7:=hid (XU6.moved hAn);have UN7:=hid (UN6.moved hAn);have XW7:=hid (XW6.moved hAn);obtain ⟨xu7c0,xu7c1,xu7c2,xu7c3,xu7c4,xu7c5,xu7c6,xu7c7,xu7c8⟩:=XU7.box.ru x rfl;have xu7cf:=XU7.box.fz;have xu7cl:=XU7.box.lt;obtain ⟨xw7c0,xw7c1,xw7c2⟩:=XW7.box.rv v1 rfl;have xw7cf:=XW7.box.fz;have xw7cl:=XW7.box.lt;clear hAn hPn hWn;have hcon:=HOK.k6 H6.out;have HC8:=hid (fun W (hP:PAt W s (n1+1) o) (hu:UArg W s u x G1)=>HCJ.out g1 (by have:=HG1.out;have:=HG.out;omega) v1 (n1+1) o u x G1 W hP HDp.out hu ⟨hcon,H96.out,con_len hcon⟩ (by have:=HG1.out;unfold need at*;omega));have hs8:=(sound (fun i w h=>(HOk.word i w h).1) g1).conj v1 (n1+1) o u (HOk.word n1 v1 HV.out).1 (by have:=HG1.out;unfold need at*;omega);unfold ptr wordV at HC8;simp only [UV.val,UV.cells] at HC8;clear hcon;cases hra:conjunction s.ws s.e g1 v1 (n1+1) o u with
           |bad c p=>
            rw [hra] at HC8 heq;have HEq:=hid heq;clear hra heq hs8;go_wp2_with (first
             |(go_at_call 125;refine (HC8.out _ (S7.at_.later (by go_grown)) (UN7.later (by go_grown)).arg).mono ?_;intro e w8 hp;replace hp:=PT.from S7.out (by go_grown) hp;obtain ⟨rfl,hA⟩:=hp))
            all_goals exact ⟨rfl,by rw [<-HEq.out];exact ⟨rfl,S7.away.next hA⟩⟩
           |ok r8=>
            obtain ⟨t8,m8⟩:=r8;rw [hra] at HC8 heq hs8;have HM8:=hid (show n1+1<m8/\m8<=s.ws.length from hs8);have HEq:=hid heq;clear hra heq hs8;go_wp2_with (first
             |(go_at_call 125;refine (HC8.out _ (S7.at_.later (by go_grown)) (UN7.later (by go_grown)).arg).mono ?_;intro e w8 hp;replace hp:=PT.from S7.out (by go_grown) hp;obtain ⟨y8,G8,rfl,hO,hG,hP,hA⟩:=hp;have S8:=hid (S7.moved hA hP);have T8:=hid (Tm.new S7.out hO hG UN7.np hA.size (fun b hb=>UN7.own.lt b hb));have XU8:=hid (XU7.moved hA);clear hO hG hP hA;simp only [TV.val,TV.cells];obtain ⟨xu8c0,xu8c1,xu8c2,xu8c3,xu8c4,xu8c5,xu8c6,xu8c7,xu8c8⟩:=XU8.box.ru x rfl;have xu8cf:=XU8.box.fz;have xu8cl:=XU8.box.lt))
            go_roundw
            case rel=>
             have hq:=unit_stored (at_:=place s.ws s.e n) S8.out XU8.out HLO.out T8.out UN7.from_ HUB.out.1 XU7.box.lt (by have:=HUB.out.2;have:=XU7.box.lt;omega) (by have:=UN7.hi_;have:=T8.le;omega) _ rfl;obtain ⟨q1,q2,q3,q4⟩:=hq
             with_reducible refine ⟨m8,_,_,⟨q1,q2,⟨_,_,_,q3,HLO1.out,q4,HUB.out.2⟩,HLO.out,⟨g1,?_,?_,?_⟩,?_⟩⟩
             ·have:=HG1.out;omega
             ·exact (by have:=HG1.out;have:=HM8.out;unfold need at*;omega)
             ·exact HEq.out
             ·exact HM8.out.2
            case measure=>
             have hq:=unit_stored (at_:=place s.ws s.e n) S8.out XU8.out HLO.out T8.out UN7.from_ HUB.out.1 XU7.box.lt (by have:=HUB.out.2;have:=XU7.box.lt;omega) (by have:=UN7.hi_;have:=T8.le;omega) _ rfl;rw [hq.1.at_.nextOf,HNX.out];have:=HM8.out;omega
      ·rw [behindU_end (fun v hv=>by rw [List.getElem?_eq_none (by omega)] at hv;cases hv)] at heq
       go_wp2_with fail
       go_quiet (fail);generalize hWq:World.drewN w4 _=w5;have hbq:Below w4.heap.size w4 w5:=hWq▸below_drewN (qb _ _) _;have S5:=hid (S4.later hbq);have XU5:=hid (XU4.later hbq);have UN5:=hid (UN4.later hbq);obtain ⟨xu5c0,xu5c1,xu5c2,xu5c3,xu5c4,xu5c5,xu5c6,xu5c7,xu5c8⟩:=XU5.box.ru x rfl;have xu5cf:=XU5.box.fz;have xu5cl:=XU5.box.lt;clear hbq hWq;clear h0 h1;have hne:=UN5.own.neS;cases hgs:u.gerund.isSome with
       |true=>
        rw [hgs] at hne heq;rw [if_pos rfl] at heq;have HEq:=hid heq;clear heq;go_wp2_with (first
         |(go_at_call 27;refine (wrong_calls _ _).mono ?_;rintro e w9 ⟨rfl,rfl⟩)
         |(go_at_call 29;refine (place_calls s _ _ _ (S5.at_.later (by go_grown))).mono ?_;rintro e w8 ⟨rfl,hb⟩;have hb0:=hb;have hb:=Start.then S5.out hb (by go_grown);have S8:=hid (S5.later hb);clear hb hb0))
        all_goals exact ⟨rfl,by rw [<-HEq.out];exact ⟨rfl,S8.away⟩⟩
       |false=>
        rw [hgs] at hne heq;rw [if_neg (by simp)] at heq;have HEq:=hid heq;clear heq;obtain ⟨c0,c1,c2,c3,c4,c5,c6,c7,c8⟩:=S5.box.r9 (.int .i64 0) (.string ⟨#[]⟩) (.int .i64 0) (.slice none 0 0) (.slice none 0 0) (.slice none 0 0) (.slice none 0 0) (.bool false) (.int .i64 0) rfl;have cf:=S5.box.fz;have cl:=S5.box.lt;go_wp2_with fail
        refine bodyPost_ret (v:=x.val) (by simp [results,Tryz.results103,nodeV,UV.val,UV.cells,c0,c1,c2,c3,c4,c5,c6,c7,c8,cf,go_sem]) rfl ?_;rw [<-HEq.out];exact UN5.ends S5.out HLO1.out _ _ _ _ _ _ _ _ _
end Pz
end Go.Proofs.YtimcmghhbdfjfaaGreatDoor
