/- Package parse. -/
import Derived.Test.YtimcmghhbdfjfaaGreatDoorQPyAN
set_option linter.unusedVariables false
set_option linter.unusedSimpArgs false
set_option maxRecDepth 100000
set_option maxHeartbeats 4000000
namespace Go.Proofs.YtimcmghhbdfjfaaGreatDoor
open Go.RowKit
namespace Pz
theorem leaves_same {P:Program} {fn:Func} {R:Ending->World->Prop} {t t':Array Value} (h:results fn t=results fn t'):∀ (ds:List Deferred) (u:FrameMode) (w:World),Leaves P fn t R ds u w->Leaves P fn t' R ds u w
 |[],.returning,w,⟨v,hr,hR⟩=>⟨v,h▸hr,hR⟩
 |[],.panicking _,_,hR=>hR
 |[],.run,_,hf=>hf.elim
 |d::ds,u,w,⟨hu,fv,cap,f,args,h1,h2,h3⟩=>⟨hu,fv,cap,f,args,h1,h2,h3.mono fun e u' w' he=>by
  cases e with
  |returned v=>exact leaves_same h ds _ _ he
  |panicked c=>exact leaves_same h ds _ _ he
  |outgrown=>exact he⟩
theorem line_panic_put {R:Ending->World->Prop} {d:Nat} (hd:d≠2/\d≠3/\d≠4) (v:Value) (c:List PanicEntry) (a:Act) (w:World) (h:bodyPostD Tryz.prog Tryz.f13 R (.panic c) (a.put (some d) v) w):bodyPostD Tryz.prog Tryz.f13 R (.panic c) a w:=by
 refine leaves_same ?_ _ _ _ h;obtain ⟨h2,h3,h4⟩:=hd;simp [results,Tryz.results13,Act.put,Array.getElem?_setIfInBounds,h2,h3,h4]
theorem line_c4 (S:ByteArray) (w:World) (hv:Vars w) (hbig:¬4096<S.size) (hrq:¬(bl S)[span (·==32) (bl S)]? =some 41) {ws:List W} {x0 x1:W} (hc:cut (bl S)=.ok ws) (h0:ws[0]? =some x0) (h1:ws[1]? =some x1) (h2:x1.kind=7/\x1.text=[61,58]) (hk:x0.kind=2):Calls Tryz.prog 13 #[.string S] w (PLine w (line (bl S))):=by
 have hmf:∀ (fn:Fn) (first cap:Array Value) (w:World),(Instr.makeFunc fn first cap).run Tryz.prog w=.ok (.func fn first cap) w:=fun _ _ _ _=>rfl;have T0:=hid (Three.new w lineZ 40 3 30);generalize hw3:((w.alloc (.cells lineZ 40)).alloc (.cells #[.int .i64 0] 3)).alloc (.cells #[.int .i64 0] 30)=w3 at T0;have HVl:=hid hv.lt;have HV3:=hid (hv.later T0.below (qa _));have HW3:=hid hw3;clear hv hw3;obtain ⟨R0,hR0⟩:∃ R0,line (bl S)=R0:=⟨_,rfl⟩;rw [hR0];have hb:¬(4096:Int)<(S.size:Int):=fun h=>hbig (Int.ofNat_lt.1 h);have hS:S.size<=4096:=Nat.le_of_not_lt hbig;have hfl:=span_in (·==32) S;obtain ⟨Q,hQ,hleft⟩:=left_is S;obtain ⟨f,hf⟩:∃ f,f=span (·==32) (bl S):=⟨_,rfl⟩;have hreq:=@line_req (bl S) (by rw [bl_len];exact hbig);have hwds:=@line_words (bl S) (by rw [bl_len];exact hbig);rw [<-hf] at hfl hQ hreq hwds hrq;have HLeft:=hid hleft;have hf0:(0:Int)<=(f:Int):=qj _;have hf1:(f:Int)<=(S.size:Int):=Int.ofNat_le.2 hfl;have HQ:=hid (And.intro hQ hfl);have HS:=hid hS;clear hleft hQ hf hbig;rw [hR0] at hreq hwds;clear hR0;have hr:=hwds hrq;clear hreq hwds;have hg:∀ hq:f<S.size,¬S[f]=41:=fun hq e=>hrq (by rw [bl_get S f hq,e]);have HG:=hid hg;clear hrq hg;have hne:ws≠[]:=fun e=>by rw [e] at h0;cases h0
 rw [hc] at hr;replace hr:R0=ofWords (bl S) ws:=hr;rw [of_named (k:=2) (cl:=1) h0 h1 h2 hk (by simp),bl_len] at hr;have HR:=hid hr;have H0:=hid h0;have H1:=hid h1;have HC:=hid hc;have hl0:(0:Int)<(ws.length:Int):=Int.ofNat_lt.2 (List.length_pos_iff.2 hne);have hl0n:0<ws.length:=List.length_pos_iff.2 hne;have hl0':((ws.length:Int)==0)=false:=by simp;exact hne
 have d1:(1:Int)<(ws.length:Int):=by have:=(qn.1 h1).1;omega
 have t7:(x1.kind==7)=true:=by simp [h2.1]
 have tt:((bytes x1.text).toList==[61,58])=true:=by rw [text_beq];simpa using h2.2
 have HK:=hid hk;clear hk;have HCut:=hid (cut_is hc HV3.out);clear hr hc hne h0 h1 h2;go_enter_defers Tryz.func13,Tryz.ntmps13
 go_upto_region 1 with fail
 rw [HW3.out];go_upto_region 3 with fail
 go_cut [5] from 10 (fun v wq=>v=.int .i64 (f:Int)/\wq=w3)
 case first=>
  have hQ1:=HQ.out.1;go_wp2_with (go_at_call 23;refine (HLeft.out _).mono ?_;rintro e w4 ⟨rfl,rfl⟩)
  go_meet
  case rel=>exact ⟨congrArg (Value.int .i64) (by first|omega|(unfold wrap64;omega)),rfl⟩
 case rest=>
 obtain ⟨rfl,hwc⟩:=hcut;subst hwc;go_upto_region 4 with fail
 go_cut [29] from 10 (fun v wq=>v=.bool false/\wq=wc)
 case first=>
  by_cases hq:f<S.size
  ·have d1:(f:Int)<(S.size:Int):=Int.ofNat_lt.2 hq
   have t41:((S[f].toNat:Int)==41)=false:=u8_ne (HG.out hq);go_wp2_with fail
   go_meet
   case rel=>exact ⟨rfl,rfl⟩
  ·have d1:¬(f:Int)<(S.size:Int):=fun h=>hq (Int.ofNat_lt.1 h)
   go_wp2_with fail
   go_meet
   case rel=>exact ⟨rfl,rfl⟩
 case rest=>
 obtain ⟨rfl,hwc⟩:=hcut;subst hwc;have c0:=T0.b0.cell 0 (.int .i64 0) rfl;have c1:=T0.b0.cell 1 (.string ⟨#[]⟩) rfl;have c2:=T0.b0.cell 2 (.int .i64 0) rfl;have c3:=T0.b0.cell 3 (.string ⟨#[]⟩) rfl;have c4:=T0.b0.cell 4 (.int .i64 0) rfl;have c5:=T0.b0.cell 5 (.slice none 0 0) rfl;have c6:=T0.b0.cell 6 (.slice none 0 0) rfl;have c7:=T0.b0.cell 7 (.slice none 0 0) rfl;have c8:=T0.b0.cell 8 (.slice none 0 0) rfl;have cf:=T0.b0.fz;have cl:=T0.b0.lt;have r1c:=T0.b1.cell 0 (.int .i64 0) rfl;have r1f:=T0.b1.fz;have r1l:=T0.b1.lt;have r2c:=T0.b2.cell 0 (.int .i64 0) rfl;have r2f:=T0.b2.fz;have r2l:=T0.b2.lt;go_upto_region 7 with (go_at_call 25;refine HCut.mono ?_;intro e w4 hp;obtain ⟨A,cap,rfl,hrow,hb⟩:=hp.good;have T4:=hid (T0.later hb);have HRow:=hid hrow;have HV4:=hid (HV3.later hb (qa _));clear hb hp hrow;clear c0 c1 c2 c3 c4 c5 c6 c7 c8 cf cl r1c r1f r1l r2c r2f r2l;obtain ⟨c0,c1,c2,c3,c4,c5,c6,c7,c8⟩:=T4.b0.r9 (.int .i64 0) (.string ⟨#[]⟩) (.int .i64 0) (.string ⟨#[]⟩) (.int .i64 0) (.slice none 0 0) (.slice none 0 0) (.slice none 0 0) (.slice none 0 0) rfl;have cf:=T4.b0.fz;have cl:=T4.b0.lt;have r1c:=T4.b1.cell 0 (.int .i64 0) rfl;have r1f:=T4.b1.fz;have r1l:=T4.b1.lt;have r2c:=T4.b2.cell 0 (.int .i64 0) rfl;have r2f:=T4.b2.fz;have r2l:=T4.b2.lt)
 generalize hW5:World.setCell (World.setCell w4 _ _) _ _=w5;have T5:=hid (show Three w lineZ 0 0 w5 from by rw [<-hW5];exact (T4.set1 0 rfl).set2 0 rfl);have HRow5:=hid (show w5.ownsRow wc.heap.size 67 3 (.slice A ws.length cap) ws.length (wflat ws) from by
  refine ownsRow_kept HRow.out (fun g hg=>?_);have h1:=(ownsRow_lt HRow.out g hg).1;have h2:=T0.lt;rw [<-hW5,qh _ _ _ _ (by simp;omega),qh _ _ _ _ (by simp;omega)])
 have HV5:=hid (show Vars w5 from by
  have h1:=HVl.out;rw [<-hW5];exact (HV4.set (fun e=>by have e:_=w.heap.size+1:=e;omega) (fun e=>by have e:_=w.heap.size+1:=e;omega) _).set (fun e=>by have e:_=w.heap.size+2:=e;omega) (fun e=>by have e:_=w.heap.size+2:=e;omega) _)
 clear hW5;clear c0 c1 c2 c3 c4 c5 c6 c7 c8 cf cl r1c r1f r1l r2c r2f r2l;have c0:=T5.b0.cell 0 (.int .i64 0) rfl;have c1:=T5.b0.cell 1 (.string ⟨#[]⟩) rfl;have c2:=T5.b0.cell 2 (.int .i64 0) rfl;have c3:=T5.b0.cell 3 (.string ⟨#[]⟩) rfl;have c4:=T5.b0.cell 4 (.int .i64 0) rfl;have c5:=T5.b0.cell 5 (.slice none 0 0) rfl;have c6:=T5.b0.cell 6 (.slice none 0 0) rfl;have c7:=T5.b0.cell 7 (.slice none 0 0) rfl;have c8:=T5.b0.cell 8 (.slice none 0 0) rfl;have cf:=T5.b0.fz;have cl:=T5.b0.lt;have r1c:=T5.b1.cell 0 (.int .i64 0) rfl;have r1f:=T5.b1.fz;have r1l:=T5.b1.lt;have r2c:=T5.b2.cell 0 (.int .i64 0) rfl;have r2f:=T5.b2.fz;have r2l:=T5.b2.lt;obtain ⟨s,hpb,hws,he,hwa,hP⟩:=PAt.start HV5.out HRow5.out HC.out;obtain rfl:A=some ⟨s.wb,0,none⟩:=by rw [<-hwa];exact (hP.words.at_ 0 x0 (by rw [hws];exact H0.out)).1
 have T6:=hid (T5.later ((qb w5.heap.size w5).alloc (qa _) (.cells #[.slice (some ⟨s.wb,0,none⟩) ws.length cap,.int .i64 0,.int .i64 (S.size:Int),.int .i64 0] 65)));have hlt6:=T5.lt;have HWb:=hid (show w.heap.size+3<=s.wb from qi T0.lt (ownsRow_lt HRow5.out s.wb rfl).1);go_upto_region 11 with fail
 generalize hW6:w5.alloc (.cells #[.slice (some ⟨s.wb,0,none⟩) ws.length cap,.int .i64 0,.int .i64 (S.size:Int),.int .i64 0] 65)=w6 at T6 hP ⊢;have hs6:w5.heap.size<w6.heap.size:=by rw [<-hW6];simp
 have HP:=hid hP;have HPb:=hid (show s.pb=w5.heap.size/\w.heap.size+2<w5.heap.size/\w5.heap.size<w6.heap.size from ⟨hpb,hlt6,hs6⟩);have HWs:=hid (And.intro hws he);clear hW6 hs6 hlt6 hwa hP;clear c0 c1 c2 c3 c4 c5 c6 c7 c8 cf cl r1c r1f r1l r2c r2f r2l;rw [<-hpb];clear hpb hws he;obtain ⟨-,k10,k11,k12⟩:=HP.words.at_ 1 x1 (by rw [HWs.out.1];exact H1.out);simp only [Nat.one_mul] at k10 k11 k12;obtain ⟨-,k00,k01,k02⟩:=HP.words.at_ 0 x0 (by rw [HWs.out.1];exact H0.out);simp only [Nat.zero_mul,Nat.zero_add] at k00 k01 k02;rw [HK.out] at k00;go_upto_region 12 with fail
 go_quiet (fail);generalize hWq:World.drewN w6 _=w7;have hbq:Below w6.heap.size w6 w7:=hWq▸below_drewN (qb _ _) _;have HP7:=hid (HP.later hbq);have T7:=hid (T6.later hbq);have HS7:=hid hbq.size;clear hWq hbq k00 k01 k02 k10 k11 k12;obtain ⟨-,k00,k01,k02⟩:=HP7.words.at_ 0 x0 (by rw [HWs.out.1];exact H0.out);simp only [Nat.zero_mul,Nat.zero_add] at k00 k01 k02;rw [HK.out] at k00;have p1:=HP7.c1;have pf:=HP7.fz;have pl:=HP7.lt;go_upto_region 18 with fail
 generalize hW8:World.setCell w7 _ _=w8;have HPn:=hid (show PAt w8 s 2 0 from by rw [<-hW8];exact HP7.next 2 rfl);have hb8:Below (w.heap.size+3) w7 w8:=by rw [<-hW8];exact (qb _ _).setCell (p:=⟨s.pb,1,none⟩) (by have:=HPb.out;show w.heap.size+3<=s.pb;omega) _
 have T8:=hid (T7.past hb8 (qa _));have HS8:=hid hb8.size;clear hW8 hb8 p1 pf pl k00 k01 k02;have HNe:=hid (show s.wb≠s.pb from HPn.ok.ne);have hwb0:¬s.wb=w.heap.size:=by have:=HWb.out;omega
 have hwb1:¬s.wb=w.heap.size+1:=by have:=HWb.out;omega
 have hwb2:¬s.wb=w.heap.size+1+1:=by have:=HWb.out;omega
 have hwb0':¬w.heap.size=s.wb:=by have:=HWb.out;omega
 have hwb1':¬w.heap.size+1=s.wb:=by have:=HWb.out;omega
 have hwb2':¬w.heap.size+1+1=s.wb:=by have:=HWb.out;omega
 obtain ⟨-,k00,k01,k02⟩:=HPn.words.at_ 0 x0 (by rw [HWs.out.1];exact H0.out);simp only [Nat.zero_mul,Nat.zero_add] at k00 k01 k02;cases hA:all ws S.size 2 1 (place ws S.size 2) with
 |ok t=>
  have hr2:all s.ws s.e 2 1 (place s.ws s.e 2)=.ok t:=by rw [HWs.out.1,HWs.out.2];exact hA
  have HAll:=hid (fun W hP=>all_is (w:=W) hr2 hP);have hr3:=HR.out;rw [hA] at hr3;have HRz:=hid (show R0=.ok (.named 2 x0.text t) from hr3);clear hr2 hr3 hA;go_region_held3 (fun w'=>w'.cell? ⟨s.wb,1,none⟩=some (.string (bytes x0.text)))
   (first|(with_reducible exact K10.out)|(with_reducible exact K9.out)|go_keep)
   (first
    |(go_at_call 29;refine (place_calls s 2 0 _ (HPn.later (by go_grown))).mono ?_;rintro e w9 ⟨rfl,hb⟩;have hb0:=Below_then hb (show Below w8.heap.size w8 _ from by go_grown);have HP9:=hid (HPn.later hb0);have T9:=hid (T8.later hb0);have HS9:=hid hb0.size;have K9:=hid (show w9.cell? ⟨s.wb,1,none⟩=some (.string (bytes x0.text)) from (by have:=(HP9.words.at_ 0 x0 (by rw [HWs.out.1];exact H0.out)).2.2.1;simpa using this));clear hb hb0)
    |(go_at_call 28;refine (HAll.out _ HP9.out).mono ?_;intro e w10 hp;obtain ⟨y,G,rfl,hO,hG,hA⟩:=hp;have T10:=hid (T9.away hA (by have:=HPb.out;omega));have HO:=hid hO;have HG:=hid hG;have HA:=hid hA.size;have K10:=hid (show w10.cell? ⟨s.wb,1,none⟩=some (.string (bytes x0.text)) from (hA.cell (q:=⟨s.wb,1,none⟩) (qc _ _ K9.out) (by exact HNe.out)).trans K9.out);clear hO hG hA;simp only [TV.val,TV.cells];obtain ⟨c0,c1,c2,c3,c4,c5,c6,c7,c8⟩:=T10.b0.r9 (.int .i64 0) (.string ⟨#[]⟩) (.int .i64 0) (.string ⟨#[]⟩) (.int .i64 0) (.slice none 0 0) (.slice none 0 0) (.slice none 0 0) (.slice none 0 0) rfl;have cf:=T10.b0.fz;have cl:=T10.b0.lt;have r1c:=T10.b1.cell 0 (.int .i64 0) rfl;have r1f:=T10.b1.fz;have r1l:=T10.b1.lt;have r2c:=T10.b2.cell 0 (.int .i64 0) rfl;have r2f:=T10.b2.fz;have r2l:=T10.b2.lt))
  all_goals
   go_wp2_with fail
   generalize hW11:World.setCell (World.setCell _ _ _) _ _=w11;have T11:=hid (show Three w #[.int .i64 2,.string (bytes x0.text),.int .i64 y.kind,.string y.text,.int .i64 y.n,.slice y.sa y.sl y.sc,.slice y.aa y.al y.ac,.slice y.ka y.kl y.kc,.slice none 0 0] 0 0 w11 from by rw [<-hW11];exact ((T10.line _ _ _ _ _ _ _ _ _).set1 0 rfl).set2 0 rfl);have HO11:=hid (show Own w11 t y G from by
    refine Own.kept t y G HO.out (fun b hb=>?_);have h1:=((HG.mem b hb).resolve_left (by simp)).1;have h2:=HPb.out;have h3:=HS7.out;have h4:=HS8.out;have h5:=HS9.out;rw [<-hW11];exact eleven_rest _ (by omega) _ _ _ _ _ _ _ _ _ _ _)
   have HS11:=hid (show w11.heap.size=w10.heap.size from by rw [<-hW11];simp [World.setCell]);clear hW11;clear c0 c1 c2 c3 c4 c5 c6 c7 c8 cf cl r1c r1f r1l r2c r2f r2l;refine leaves_cons (f:=26) (args:=#[.pointer (some ⟨w.heap.size,0,none⟩),.pointer (some ⟨w.heap.size+1,0,none⟩),.pointer (some ⟨w.heap.size+1+1,0,none⟩)]) (by simp) (by simp [go_sem]) ?_;refine (catchL_idle _ _ _ _).mono ?_;rintro e u' w12 ⟨rfl,rfl,hb12⟩;have T12:=hid (T11.later hb12);have c0:=T12.b0.cell 0 (.int .i64 2) rfl;have c1:=T12.b0.cell 1 (.string (bytes x0.text)) rfl;have c2:=T12.b0.cell 2 (.int .i64 y.kind) rfl;have c3:=T12.b0.cell 3 (.string y.text) rfl;have c4:=T12.b0.cell 4 (.int .i64 y.n) rfl;have c5:=T12.b0.cell 5 (.slice y.sa y.sl y.sc) rfl;have c6:=T12.b0.cell 6 (.slice y.aa y.al y.ac) rfl;have c7:=T12.b0.cell 7 (.slice y.ka y.kl y.kc) rfl;have c8:=T12.b0.cell 8 (.slice none 0 0) rfl;have cf:=T12.b0.fz;have cl:=T12.b0.lt;have r1c:=T12.b1.cell 0 (.int .i64 0) rfl;have r1f:=T12.b1.fz;have r1l:=T12.b1.lt;have r2c:=T12.b2.cell 0 (.int .i64 0) rfl;have r2f:=T12.b2.fz;have r2l:=T12.b2.lt;refine ⟨.tuple #[lineV 2 ((bytes x0.text)) y (.slice none 0 0),.int .i64 0,.int .i64 0],by simp [results,Tryz.results13,lineV,zeroTV,TV.val,TV.cells,c0,c1,c2,c3,c4,c5,c6,c7,c8,cf,r1c,r1f,r2c,r2f,go_sem],?_⟩;rw [HRz.out];exact ⟨_,rfl,⟨y,G,rfl,Own.later' HO11.out hb12,HG.mono (by have:=HPb.out;have:=HS7.out;have:=HS8.out;have:=HS9.out;omega) (by have:=HS11.out;have:=hb12.size;omega)⟩,T12.below⟩
 |bad c p=>
  have hr2:all s.ws s.e 2 1 (place s.ws s.e 2)=.bad c p:=by rw [HWs.out.1,HWs.out.2];exact hA
  have HAll:=hid (fun W hP=>all_is (w:=W) hr2 hP);have hr3:=HR.out;rw [hA] at hr3;have HRz:=hid (show R0=.bad c p from hr3);clear hr2 hr3 hA;refine wp_region_held_drew (S:=(fun w'=>w'.cell? ⟨s.wb,1,none⟩=some (.string (bytes x0.text)))) (by kernel_rfl) (by go_keep) (fun hHeld=>?_);refine wpAnyH_take (i:=0) (v:=?_) rfl (by kernel_rfl) (by kernel_rfl) (by kernel_rfl) (fun c a w h=>line_panic_put (by decide) _ c a w h) (Or.inl ⟨by rfl,?_⟩) (by assumption) ?_;rotate_left
  ·intro w hSw
   (try dsimp only at hSw)
   go_simp;try with_reducible rfl
  try simp only [Act.put,qk,qll,qm]
  refine wpAnyH_take (i:=1) (v:=?_) rfl (by kernel_rfl) (by kernel_rfl) (by kernel_rfl) (fun c a w h=>line_panic_put (by decide) _ c a w h) (Or.inl ⟨by rfl,?_⟩) (by assumption) ?_;rotate_left
  ·intro w hSw
   (try dsimp only at hSw)
   go_simp;try with_reducible rfl
  try simp only [Act.put,qk,qll,qm]
  refine wpAnyH_take (i:=2) (v:=?_) rfl (by kernel_rfl) (by kernel_rfl) (by kernel_rfl) (fun c a w h=>line_panic_put (by decide) _ c a w h) (Or.inl ⟨by rfl,?_⟩) (by assumption) ?_;rotate_left
  ·intro w hSw
   (try dsimp only at hSw)
   go_simp;try with_reducible rfl
  try simp only [Act.put,qk,qll,qm]
  refine wpAnyH_take (i:=3) (v:=?_) rfl (by kernel_rfl) (by kernel_rfl) (by kernel_rfl) (fun c a w h=>line_panic_put (by decide) _ c a w h) (Or.inl ⟨by rfl,?_⟩) (by assumption) ?_;rotate_left
  ·intro w hSw
   (try dsimp only at hSw)
   go_simp;try with_reducible rfl
  try simp only [Act.put,qk,qll,qm]
  refine wpAnyH_take (i:=4) (v:=?_) rfl (by kernel_rfl) (by kernel_rfl) (by kernel_rfl) (fun c a w h=>line_panic_put (by decide) _ c a w h) (Or.inl ⟨by rfl,?_⟩) (by assumption) ?_;rotate_left
  ·intro w hSw
   (try dsimp only at hSw)
   go_simp;try with_reducible rfl
  try simp only [Act.put,qk,qll,qm]
  refine wpAnyH_take (i:=5) (v:=?_) rfl (by kernel_rfl) (by kernel_rfl) (by kernel_rfl) (fun c a w h=>line_panic_put (by decide) _ c a w h) (Or.inl ⟨by rfl,?_⟩) (by assumption) ?_;rotate_left
  ·intro w hSw
   (try dsimp only at hSw)
   go_simp;try with_reducible rfl
  try simp only [Act.put,qk,qll,qm]
  refine wpAnyH_take (i:=6) (v:=?_) rfl (by kernel_rfl) (by kernel_rfl) (by kernel_rfl) (fun c a w h=>line_panic_put (by decide) _ c a w h) (Or.inl ⟨by rfl,?_⟩) (by assumption) ?_;rotate_left
  ·intro w hSw
   (try dsimp only at hSw)
   go_simp;try with_reducible rfl
  try simp only [Act.put,qk,qll,qm]
  refine wpAnyH_take (i:=7) (v:=?_) rfl (by kernel_rfl) (by kernel_rfl) (by kernel_rfl) (fun c a w h=>line_panic_put (by decide) _ c a w h) (Or.inl ⟨by rfl,?_⟩) (by assumption) ?_;rotate_left
  ·intro w hSw
   (try dsimp only at hSw)
   go_simp;try with_reducible rfl
  try simp only [Act.put,qk,qll,qm]
  refine wpAnyH_ready (rs:=[8]) (by kernel_rfl) (by simp) ?_;refine AllReadyH.cons rfl (fun K hK=>?_) AllReadyH.nil;go_simp;go_wp2_with (go_at_call 29;refine (place_calls s 2 0 _ (HPn.later (by go_grown))).mono ?_;rintro e w9 ⟨rfl,hb⟩;have hb0:=Below_then hb (show Below w8.heap.size w8 _ from by go_grown);have HP9:=hid (HPn.later hb0);have T9:=hid (T8.later hb0);have HS9:=hid hb0.size;have K9:=hid (show w9.cell? ⟨s.wb,1,none⟩=some (.string (bytes x0.text)) from (by have:=(HP9.words.at_ 0 x0 (by rw [HWs.out.1];exact H0.out)).2.2.1;simpa using this));clear hb hb0)
  refine hK.out _ _ ?_ (fun hHeld=>?_)
  ·exact K9.out
  clear hK K;try simp only [Act.put,qk,qll,qm]
  refine wpAnyH_ready (rs:=[9]) (by kernel_rfl) (by simp) ?_;refine AllReadyH.cons rfl (fun K hK=>?_) AllReadyH.nil;go_simp;go_wp2_with (go_at_call 28;refine (HAll.out _ HP9.out).mono ?_;intro e w10 hp;obtain ⟨rfl,hA⟩:=hp;have T10:=hid (T9.away hA (by have:=HPb.out;omega));clear hA)
  refine leaves_cons (f:=26) (args:=#[.pointer (some ⟨w.heap.size,0,none⟩),.pointer (some ⟨w.heap.size+1,0,none⟩),.pointer (some ⟨w.heap.size+1+1,0,none⟩)]) (by simp) (by simp [go_sem]) ?_;refine (catchL_fault w.heap.size (w.heap.size+1) (w.heap.size+1+1) (c) (p) [] _ _ _ _ _ _ _ _ _ _ _ _ (by omega) (by omega) (by omega) (by omega) (by omega) (by omega) (T10.b1.cell 0 (.int .i64 0) rfl) (T10.b1.fz 0) (T10.b2.cell 0 (.int .i64 0) rfl) (T10.b2.fz 0) (T10.b0.cell 0 (.int .i64 0) rfl) (T10.b0.cell 1 (.string ⟨#[]⟩) rfl) (T10.b0.cell 2 (.int .i64 0) rfl) (T10.b0.cell 3 (.string ⟨#[]⟩) rfl) (T10.b0.cell 4 (.int .i64 0) rfl) (T10.b0.cell 5 (.slice none 0 0) rfl) (T10.b0.cell 6 (.slice none 0 0) rfl) (T10.b0.cell 7 (.slice none 0 0) rfl) (T10.b0.cell 8 (.slice none 0 0) rfl) T10.b0.fz).mono ?_;rintro e u' w11 ⟨rfl,rfl,hb11⟩;unfold zeroLine at hb11;have T11:=hid ((((T10.line _ _ _ _ _ _ _ _ _).set1 (p) rfl).set2 (c) rfl).later (by simpa [World.setCell] using hb11));have c0:=T11.b0.cell 0 (.int .i64 0) rfl;have c1:=T11.b0.cell 1 (.string ⟨#[]⟩) rfl;have c2:=T11.b0.cell 2 (.int .i64 0) rfl;have c3:=T11.b0.cell 3 (.string ⟨#[]⟩) rfl;have c4:=T11.b0.cell 4 (.int .i64 0) rfl;have c5:=T11.b0.cell 5 (.slice none 0 0) rfl;have c6:=T11.b0.cell 6 (.slice none 0 0) rfl;have c7:=T11.b0.cell 7 (.slice none 0 0) rfl;have c8:=T11.b0.cell 8 (.slice none 0 0) rfl;have cf:=T11.b0.fz;have cl:=T11.b0.lt;have r1c:=T11.b1.cell 0 (.int .i64 p) rfl;have r1f:=T11.b1.fz;have r1l:=T11.b1.lt;have r2c:=T11.b2.cell 0 (.int .i64 c) rfl;have r2f:=T11.b2.fz;have r2l:=T11.b2.lt;refine ⟨.tuple #[lineV 0 ⟨#[]⟩ zeroTV (.slice none 0 0),.int .i64 p,.int .i64 c],by simp [results,Tryz.results13,lineV,zeroTV,TV.val,TV.cells,c0,c1,c2,c3,c4,c5,c6,c7,c8,cf,r1c,r1f,r2c,r2f,go_sem],?_⟩;rw [HRz.out];exact ⟨rfl,T11.below⟩
end Pz
open Go.RowKit
namespace Pz
theorem line_c3 (S:ByteArray) (w:World) (hv:Vars w) (hbig:¬4096<S.size) (hrq:¬(bl S)[span (·==32) (bl S)]? =some 41) {ws:List W} {x0:W} (hc:cut (bl S)=.ok ws) (h0:ws[0]? =some x0) (h1:∀ v,ws[1]? =some v->¬(v.kind=7/\v.text=[61,58])):Calls Tryz.prog 13 #[.string S] w (PLine w (line (bl S))):=by
 have hmf:∀ (fn:Fn) (first cap:Array Value) (w:World),(Instr.makeFunc fn first cap).run Tryz.prog w=.ok (.func fn first cap) w:=fun _ _ _ _=>rfl;have T0:=hid (Three.new w lineZ 40 3 30);generalize hw3:((w.alloc (.cells lineZ 40)).alloc (.cells #[.int .i64 0] 3)).alloc (.cells #[.int .i64 0] 30)=w3 at T0;have HVl:=hid hv.lt;have HV3:=hid (hv.later T0.below (qa _));have HW3:=hid hw3;clear hv hw3;obtain ⟨R0,hR0⟩:∃ R0,line (bl S)=R0:=⟨_,rfl⟩;rw [hR0];have hb:¬(4096:Int)<(S.size:Int):=fun h=>hbig (Int.ofNat_lt.1 h);have hS:S.size<=4096:=Nat.le_of_not_lt hbig;have hfl:=span_in (·==32) S;obtain ⟨Q,hQ,hleft⟩:=left_is S;obtain ⟨f,hf⟩:∃ f,f=span (·==32) (bl S):=⟨_,rfl⟩;have hreq:=@line_req (bl S) (by rw [bl_len];exact hbig);have hwds:=@line_words (bl S) (by rw [bl_len];exact hbig);rw [<-hf] at hfl hQ hreq hwds hrq;have HLeft:=hid hleft;have hf0:(0:Int)<=(f:Int):=qj _;have hf1:(f:Int)<=(S.size:Int):=Int.ofNat_le.2 hfl;have HQ:=hid (And.intro hQ hfl);have HS:=hid hS;clear hleft hQ hf hbig;rw [hR0] at hreq hwds;clear hR0;have hr:=hwds hrq;clear hreq hwds;have hg:∀ hq:f<S.size,¬S[f]=41:=fun hq e=>hrq (by rw [bl_get S f hq,e]);have HG:=hid hg;clear hrq hg;have hne:ws≠[]:=fun e=>by rw [e] at h0;cases h0
 rw [hc] at hr;replace hr:R0=ofWords (bl S) ws:=hr;rw [of_noun hne h1,bl_len] at hr;have HR:=hid hr;have H0:=hid h0;have H1:=hid h1;have HC:=hid hc;have hl0:(0:Int)<(ws.length:Int):=Int.ofNat_lt.2 (List.length_pos_iff.2 hne);have hl0n:0<ws.length:=List.length_pos_iff.2 hne;have hl0':((ws.length:Int)==0)=false:=by simp;exact hne
 have HCut:=hid (cut_is hc HV3.out);clear hr hc hne h0 h1;go_enter_defers Tryz.func13,Tryz.ntmps13
 go_upto_region 1 with fail
 rw [HW3.out];go_upto_region 3 with fail
 go_cut [5] from 10 (fun v wq=>v=.int .i64 (f:Int)/\wq=w3)
 case first=>
  have hQ1:=HQ.out.1;go_wp2_with (go_at_call 23;refine (HLeft.out _).mono ?_;rintro e w4 ⟨rfl,rfl⟩)
  go_meet
  case rel=>exact ⟨congrArg (Value.int .i64) (by first|omega|(unfold wrap64;omega)),rfl⟩
 case rest=>
 obtain ⟨rfl,hwc⟩:=hcut;subst hwc;go_upto_region 4 with fail
 go_cut [29] from 10 (fun v wq=>v=.bool false/\wq=wc)
 case first=>
  by_cases hq:f<S.size
  ·have d1:(f:Int)<(S.size:Int):=Int.ofNat_lt.2 hq
   have t41:((S[f].toNat:Int)==41)=false:=u8_ne (HG.out hq);go_wp2_with fail
   go_meet
   case rel=>exact ⟨rfl,rfl⟩
  ·have d1:¬(f:Int)<(S.size:Int):=fun h=>hq (Int.ofNat_lt.1 h)
   go_wp2_with fail
   go_meet
   case rel=>exact ⟨rfl,rfl⟩
 case rest=>
 obtain ⟨rfl,hwc⟩:=hcut;subst hwc;have c0:=T0.b0.cell 0 (.int .i64 0) rfl;have c1:=T0.b0.cell 1 (.string ⟨#[]⟩) rfl;have c2:=T0.b0.cell 2 (.int .i64 0) rfl;have c3:=T0.b0.cell 3 (.string ⟨#[]⟩) rfl;have c4:=T0.b0.cell 4 (.int .i64 0) rfl;have c5:=T0.b0.cell 5 (.slice none 0 0) rfl;have c6:=T0.b0.cell 6 (.slice none 0 0) rfl;have c7:=T0.b0.cell 7 (.slice none 0 0) rfl;have c8:=T0.b0.cell 8 (.slice none 0 0) rfl;have cf:=T0.b0.fz;have cl:=T0.b0.lt;have r1c:=T0.b1.cell 0 (.int .i64 0) rfl;have r1f:=T0.b1.fz;have r1l:=T0.b1.lt;have r2c:=T0.b2.cell 0 (.int .i64 0) rfl;have r2f:=T0.b2.fz;have r2l:=T0.b2.lt;go_upto_region 7 with (go_at_call 25;refine HCut.mono ?_;intro e w4 hp;obtain ⟨A,cap,rfl,hrow,hb⟩:=hp.good;have T4:=hid (T0.later hb);have HRow:=hid hrow;have HV4:=hid (HV3.later hb (qa _));clear hb hp hrow;clear c0 c1 c2 c3 c4 c5 c6 c7 c8 cf cl r1c r1f r1l r2c r2f r2l;obtain ⟨c0,c1,c2,c3,c4,c5,c6,c7,c8⟩:=T4.b0.r9 (.int .i64 0) (.string ⟨#[]⟩) (.int .i64 0) (.string ⟨#[]⟩) (.int .i64 0) (.slice none 0 0) (.slice none 0 0) (.slice none 0 0) (.slice none 0 0) rfl;have cf:=T4.b0.fz;have cl:=T4.b0.lt;have r1c:=T4.b1.cell 0 (.int .i64 0) rfl;have r1f:=T4.b1.fz;have r1l:=T4.b1.lt;have r2c:=T4.b2.cell 0 (.int .i64 0) rfl;have r2f:=T4.b2.fz;have r2l:=T4.b2.lt)
 generalize hW5:World.setCell (World.setCell w4 _ _) _ _=w5;have T5:=hid (show Three w lineZ 0 0 w5 from by rw [<-hW5];exact (T4.set1 0 rfl).set2 0 rfl);have HRow5:=hid (show w5.ownsRow wc.heap.size 67 3 (.slice A ws.length cap) ws.length (wflat ws) from by
  refine ownsRow_kept HRow.out (fun g hg=>?_);have h1:=(ownsRow_lt HRow.out g hg).1;have h2:=T0.lt;rw [<-hW5,qh _ _ _ _ (by simp;omega),qh _ _ _ _ (by simp;omega)])
 have HV5:=hid (show Vars w5 from by
  have h1:=HVl.out;rw [<-hW5];exact (HV4.set (fun e=>by have e:_=w.heap.size+1:=e;omega) (fun e=>by have e:_=w.heap.size+1:=e;omega) _).set (fun e=>by have e:_=w.heap.size+2:=e;omega) (fun e=>by have e:_=w.heap.size+2:=e;omega) _)
 clear hW5;clear c0 c1 c2 c3 c4 c5 c6 c7 c8 cf cl r1c r1f r1l r2c r2f r2l;have c0:=T5.b0.cell 0 (.int .i64 0) rfl;have c1:=T5.b0.cell 1 (.string ⟨#[]⟩) rfl;have c2:=T5.b0.cell 2 (.int .i64 0) rfl;have c3:=T5.b0.cell 3 (.string ⟨#[]⟩) rfl;have c4:=T5.b0.cell 4 (.int .i64 0) rfl;have c5:=T5.b0.cell 5 (.slice none 0 0) rfl;have c6:=T5.b0.cell 6 (.slice none 0 0) rfl;have c7:=T5.b0.cell 7 (.slice none 0 0) rfl;have c8:=T5.b0.cell 8 (.slice none 0 0) rfl;have cf:=T5.b0.fz;have cl:=T5.b0.lt;have r1c:=T5.b1.cell 0 (.int .i64 0) rfl;have r1f:=T5.b1.fz;have r1l:=T5.b1.lt;have r2c:=T5.b2.cell 0 (.int .i64 0) rfl;have r2f:=T5.b2.fz;have r2l:=T5.b2.lt;obtain ⟨s,hpb,hws,he,hwa,hP⟩:=PAt.start HV5.out HRow5.out HC.out;obtain rfl:A=some ⟨s.wb,0,none⟩:=by rw [<-hwa];exact (hP.words.at_ 0 x0 (by rw [hws];exact H0.out)).1
 have T6:=hid (T5.later ((qb w5.heap.size w5).alloc (qa _) (.cells #[.slice (some ⟨s.wb,0,none⟩) ws.length cap,.int .i64 0,.int .i64 (S.size:Int),.int .i64 0] 65)));have hlt6:=T5.lt;have HWb:=hid (show w.heap.size+3<=s.wb from qi T0.lt (ownsRow_lt HRow5.out s.wb rfl).1);go_upto_region 11 with fail
 generalize hW6:w5.alloc (.cells #[.slice (some ⟨s.wb,0,none⟩) ws.length cap,.int .i64 0,.int .i64 (S.size:Int),.int .i64 0] 65)=w6 at T6 hP ⊢;have hs6:w5.heap.size<w6.heap.size:=by rw [<-hW6];simp
 have HP:=hid hP;have HPb:=hid (show s.pb=w5.heap.size/\w.heap.size+2<w5.heap.size/\w5.heap.size<w6.heap.size from ⟨hpb,hlt6,hs6⟩);have HWs:=hid (And.intro hws he);clear hW6 hs6 hlt6 hwa hP;clear c0 c1 c2 c3 c4 c5 c6 c7 c8 cf cl r1c r1f r1l r2c r2f r2l;rw [<-hpb];clear hpb hws he;go_cut [74] from 10 (fun v wq=>v=.bool false/\wq=w6)
 case first=>
  cases hx:ws[1]? with
  |none=>
   have d1:¬(1:Int)<(ws.length:Int):=by have:=List.getElem?_eq_none_iff.1 hx;omega
   go_wp2_with fail
   go_meet
   case rel=>exact ⟨rfl,rfl⟩
  |some x1=>
   have d1:(1:Int)<(ws.length:Int):=by have:=(qn.1 hx).1;omega
   obtain ⟨-,k10,k11,k12⟩:=HP.words.at_ 1 x1 (by rw [HWs.out.1];exact hx);simp only [Nat.one_mul] at k10 k11 k12;by_cases hk:x1.kind=7
   ·have t7:(x1.kind==7)=true:=by simp [hk]
    have tt:((bytes x1.text).toList==[61,58])=false:=by rw [text_beq];simpa using fun e=>H1.out x1 hx ⟨hk,e⟩
    clear hk hx;go_wp2_with fail
    go_meet
    case rel=>exact ⟨rfl,rfl⟩
   ·have t7:(x1.kind==7)=false:=by simp [hk]
    clear hk hx;go_wp2_with fail
    go_meet
    case rel=>exact ⟨rfl,rfl⟩
 case rest=>
 obtain ⟨rfl,hwc⟩:=hcut;subst hwc;cases hA:all ws S.size 0 1 (place ws S.size 0) with
 |ok t=>
  have hr2:all s.ws s.e 0 1 (place s.ws s.e 0)=.ok t:=by rw [HWs.out.1,HWs.out.2];exact hA
  have HAll:=hid (fun W hP=>all_is (w:=W) hr2 hP);have hr3:=HR.out;rw [hA] at hr3;have HRz:=hid (show R0=.ok (.noun t) from hr3);clear hr2 hr3 hA;go_wp2_with (first
   |(go_at_call 29;refine (place_calls s 0 0 _ HP.out).mono ?_;rintro e w7 ⟨rfl,hb⟩;have HP7:=hid (HP.later hb);have T7:=hid (T6.later hb);have HS7:=hid hb.size;clear hb)
   |(go_at_call 28;refine (HAll.out _ HP7.out).mono ?_;intro e w8 hp;obtain ⟨y,G,rfl,hO,hG,hA⟩:=hp;have T8:=hid (T7.away hA (by have:=HPb.out;omega));have HO:=hid hO;have HG:=hid hG;have HA:=hid hA.size;clear hO hG hA;simp only [TV.val,TV.cells];obtain ⟨c0,c1,c2,c3,c4,c5,c6,c7,c8⟩:=T8.b0.r9 (.int .i64 0) (.string ⟨#[]⟩) (.int .i64 0) (.string ⟨#[]⟩) (.int .i64 0) (.slice none 0 0) (.slice none 0 0) (.slice none 0 0) (.slice none 0 0) rfl;have cf:=T8.b0.fz;have cl:=T8.b0.lt;have r1c:=T8.b1.cell 0 (.int .i64 0) rfl;have r1f:=T8.b1.fz;have r1l:=T8.b1.lt;have r2c:=T8.b2.cell 0 (.int .i64 0) rfl;have r2f:=T8.b2.fz;have r2l:=T8.b2.lt))
  generalize hW9:World.setCell (World.setCell _ _ _) _ _=w9;have T9:=hid (show Three w #[.int .i64 1,.string ⟨#[]⟩,.int .i64 y.kind,.string y.text,.int .i64 y.n,.slice y.sa y.sl y.sc,.slice y.aa y.al y.ac,.slice y.ka y.kl y.kc,.slice none 0 0] 0 0 w9 from by rw [<-hW9];exact ((T8.line _ _ _ _ _ _ _ _ _).set1 0 rfl).set2 0 rfl);have HO9:=hid (show Own w9 t y G from by
   refine Own.kept t y G HO.out (fun b hb=>?_);have h1:=((HG.mem b hb).resolve_left (by simp)).1;have h2:=HPb.out;have h3:=HS7.out;rw [<-hW9];exact eleven_rest _ (by omega) _ _ _ _ _ _ _ _ _ _ _)
  have HS9:=hid (show w9.heap.size=w8.heap.size from by rw [<-hW9];simp [World.setCell]);clear hW9;clear c0 c1 c2 c3 c4 c5 c6 c7 c8 cf cl r1c r1f r1l r2c r2f r2l;refine leaves_cons (f:=26) (args:=#[.pointer (some ⟨w.heap.size,0,none⟩),.pointer (some ⟨w.heap.size+1,0,none⟩),.pointer (some ⟨w.heap.size+1+1,0,none⟩)]) (by simp) (by simp [go_sem]) ?_;refine (catchL_idle _ _ _ _).mono ?_;rintro e u' w10 ⟨rfl,rfl,hb10⟩;have T10:=hid (T9.later hb10);have c0:=T10.b0.cell 0 (.int .i64 1) rfl;have c1:=T10.b0.cell 1 (.string ⟨#[]⟩) rfl;have c2:=T10.b0.cell 2 (.int .i64 y.kind) rfl;have c3:=T10.b0.cell 3 (.string y.text) rfl;have c4:=T10.b0.cell 4 (.int .i64 y.n) rfl;have c5:=T10.b0.cell 5 (.slice y.sa y.sl y.sc) rfl;have c6:=T10.b0.cell 6 (.slice y.aa y.al y.ac) rfl;have c7:=T10.b0.cell 7 (.slice y.ka y.kl y.kc) rfl;have c8:=T10.b0.cell 8 (.slice none 0 0) rfl;have cf:=T10.b0.fz;have cl:=T10.b0.lt;have r1c:=T10.b1.cell 0 (.int .i64 0) rfl;have r1f:=T10.b1.fz;have r1l:=T10.b1.lt;have r2c:=T10.b2.cell 0 (.int .i64 0) rfl;have r2f:=T10.b2.fz;have r2l:=T10.b2.lt;refine ⟨.tuple #[lineV 1 (⟨#[]⟩) y (.slice none 0 0),.int .i64 0,.int .i64 0],by simp [results,Tryz.results13,lineV,zeroTV,TV.val,TV.cells,c0,c1,c2,c3,c4,c5,c6,c7,c8,cf,r1c,r1f,r2c,r2f,go_sem],?_⟩;rw [HRz.out];exact ⟨_,rfl,⟨y,G,rfl,Own.later' HO9.out hb10,HG.mono (by have:=HPb.out;have:=HS7.out;omega) (by have:=HS9.out;have:=hb10.size;omega)⟩,T10.below⟩
 |bad c p=>
  have hr2:all s.ws s.e 0 1 (place s.ws s.e 0)=.bad c p:=by rw [HWs.out.1,HWs.out.2];exact hA
  have HAll:=hid (fun W hP=>all_is (w:=W) hr2 hP);have hr3:=HR.out;rw [hA] at hr3;have HRz:=hid (show R0=.bad c p from hr3);clear hr2 hr3 hA;go_wp2_with (first
   |(go_at_call 29;refine (place_calls s 0 0 _ HP.out).mono ?_;rintro e w7 ⟨rfl,hb⟩;have HP7:=hid (HP.later hb);have T7:=hid (T6.later hb);have HS7:=hid hb.size;clear hb)
   |(go_at_call 28;refine (HAll.out _ HP7.out).mono ?_;intro e w8 hp;obtain ⟨rfl,hA⟩:=hp;have T8:=hid (T7.away hA (by have:=HPb.out;omega));clear hA))
  refine leaves_cons (f:=26) (args:=#[.pointer (some ⟨w.heap.size,0,none⟩),.pointer (some ⟨w.heap.size+1,0,none⟩),.pointer (some ⟨w.heap.size+1+1,0,none⟩)]) (by simp) (by simp [go_sem]) ?_;refine (catchL_fault w.heap.size (w.heap.size+1) (w.heap.size+1+1) (c) (p) [] _ _ _ _ _ _ _ _ _ _ _ _ (by omega) (by omega) (by omega) (by omega) (by omega) (by omega) (T8.b1.cell 0 (.int .i64 0) rfl) (T8.b1.fz 0) (T8.b2.cell 0 (.int .i64 0) rfl) (T8.b2.fz 0) (T8.b0.cell 0 (.int .i64 0) rfl) (T8.b0.cell 1 (.string ⟨#[]⟩) rfl) (T8.b0.cell 2 (.int .i64 0) rfl) (T8.b0.cell 3 (.string ⟨#[]⟩) rfl) (T8.b0.cell 4 (.int .i64 0) rfl) (T8.b0.cell 5 (.slice none 0 0) rfl) (T8.b0.cell 6 (.slice none 0 0) rfl) (T8.b0.cell 7 (.slice none 0 0) rfl) (T8.b0.cell 8 (.slice none 0 0) rfl) T8.b0.fz).mono ?_;rintro e u' w9 ⟨rfl,rfl,hb9⟩;unfold zeroLine at hb9;have T9:=hid ((((T8.line _ _ _ _ _ _ _ _ _).set1 (p) rfl).set2 (c) rfl).later (by simpa [World.setCell] using hb9));have c0:=T9.b0.cell 0 (.int .i64 0) rfl;have c1:=T9.b0.cell 1 (.string ⟨#[]⟩) rfl;have c2:=T9.b0.cell 2 (.int .i64 0) rfl;have c3:=T9.b0.cell 3 (.string ⟨#[]⟩) rfl;have c4:=T9.b0.cell 4 (.int .i64 0) rfl;have c5:=T9.b0.cell 5 (.slice none 0 0) rfl;have c6:=T9.b0.cell 6 (.slice none 0 0) rfl;have c7:=T9.b0.cell 7 (.slice none 0 0) rfl;have c8:=T9.b0.cell 8 (.slice none 0 0) rfl;have cf:=T9.b0.fz;have cl:=T9.b0.lt;have r1c:=T9.b1.cell 0 (.int .i64 p) rfl;have r1f:=T9.b1.fz;have r1l:=T9.b1.lt;have r2c:=T9.b2.cell 0 (.int .i64 c) rfl;have r2f:=T9.b2.fz;have r2l:=T9.b2.lt;refine ⟨.tuple #[lineV 0 ⟨#[]⟩ zeroTV (.slice none 0 0),.int .i64 p,.int .i64 c],by simp [results,Tryz.results13,lineV,zeroTV,TV.val,TV.cells,c0,c1,c2,c3,c4,c5,c6,c7,c8,cf,r1c,r1f,r2c,r2f,go_sem],?_⟩;rw [HRz.out];exact ⟨rfl,T9.below⟩
end Pz
open Go.RowKit
namespace Pz
theorem line_c5 (S:ByteArray) (w:World) (hv:Vars w) (hbig:¬4096<S.size) (hrq:¬(bl S)[span (·==32) (bl S)]? =some 41) {ws:List W} {x0 x1:W} (hc:cut (bl S)=.ok ws) (h0:ws[0]? =some x0) (h1:ws[1]? =some x1) (h2:x1.kind=7/\x1.text=[61,58]) (hk:x0.kind=3):Calls Tryz.prog 13 #[.string S] w (PLine w (line (bl S))):=by
 have hmf:∀ (fn:Fn) (first cap:Array Value) (w:World),(Instr.makeFunc fn first cap).run Tryz.prog w=.ok (.func fn first cap) w:=fun _ _ _ _=>rfl;have T0:=hid (Three.new w lineZ 40 3 30);generalize hw3:((w.alloc (.cells lineZ 40)).alloc (.cells #[.int .i64 0] 3)).alloc (.cells #[.int .i64 0] 30)=w3 at T0;have HVl:=hid hv.lt;have HV3:=hid (hv.later T0.below (qa _));have HW3:=hid hw3;clear hv hw3;obtain ⟨R0,hR0⟩:∃ R0,line (bl S)=R0:=⟨_,rfl⟩;rw [hR0];have hb:¬(4096:Int)<(S.size:Int):=fun h=>hbig (Int.ofNat_lt.1 h);have hS:S.size<=4096:=Nat.le_of_not_lt hbig;have hfl:=span_in (·==32) S;obtain ⟨Q,hQ,hleft⟩:=left_is S;obtain ⟨f,hf⟩:∃ f,f=span (·==32) (bl S):=⟨_,rfl⟩;have hreq:=@line_req (bl S) (by rw [bl_len];exact hbig);have hwds:=@line_words (bl S) (by rw [bl_len];exact hbig);rw [<-hf] at hfl hQ hreq hwds hrq;have HLeft:=hid hleft;have hf0:(0:Int)<=(f:Int):=qj _;have hf1:(f:Int)<=(S.size:Int):=Int.ofNat_le.2 hfl;have HQ:=hid (And.intro hQ hfl);have HS:=hid hS;clear hleft hQ hf hbig;rw [hR0] at hreq hwds;clear hR0;have hr:=hwds hrq;clear hreq hwds;have hg:∀ hq:f<S.size,¬S[f]=41:=fun hq e=>hrq (by rw [bl_get S f hq,e]);have HG:=hid hg;clear hrq hg;have hne:ws≠[]:=fun e=>by rw [e] at h0;cases h0
 rw [hc] at hr;replace hr:R0=ofWords (bl S) ws:=hr;rw [of_named (k:=3) (cl:=3) h0 h1 h2 hk (by simp),bl_len] at hr;have HR:=hid hr;have H0:=hid h0;have H1:=hid h1;have HC:=hid hc;have hl0:(0:Int)<(ws.length:Int):=Int.ofNat_lt.2 (List.length_pos_iff.2 hne);have hl0n:0<ws.length:=List.length_pos_iff.2 hne;have hl0':((ws.length:Int)==0)=false:=by simp;exact hne
 have d1:(1:Int)<(ws.length:Int):=by have:=(qn.1 h1).1;omega
 have t7:(x1.kind==7)=true:=by simp [h2.1]
 have tt:((bytes x1.text).toList==[61,58])=true:=by rw [text_beq];simpa using h2.2
 have HK:=hid hk;clear hk;have HCut:=hid (cut_is hc HV3.out);clear hr hc hne h0 h1 h2;go_enter_defers Tryz.func13,Tryz.ntmps13
 go_upto_region 1 with fail
 rw [HW3.out];go_upto_region 3 with fail
 go_cut [5] from 10 (fun v wq=>v=.int .i64 (f:Int)/\wq=w3)
 case first=>
  have hQ1:=HQ.out.1;go_wp2_with (go_at_call 23;refine (HLeft.out _).mono ?_;rintro e w4 ⟨rfl,rfl⟩)
  go_meet
  case rel=>exact ⟨congrArg (Value.int .i64) (by first|omega|(unfold wrap64;omega)),rfl⟩
 case rest=>
 obtain ⟨rfl,hwc⟩:=hcut;subst hwc;go_upto_region 4 with fail
 go_cut [29] from 10 (fun v wq=>v=.bool false/\wq=wc)
 case first=>
  by_cases hq:f<S.size
  ·have d1:(f:Int)<(S.size:Int):=Int.ofNat_lt.2 hq
   have t41:((S[f].toNat:Int)==41)=false:=u8_ne (HG.out hq);go_wp2_with fail
   go_meet
   case rel=>exact ⟨rfl,rfl⟩
  ·have d1:¬(f:Int)<(S.size:Int):=fun h=>hq (Int.ofNat_lt.1 h)
   go_wp2_with fail
   go_meet
   case rel=>exact ⟨rfl,rfl⟩
 case rest=>
 obtain ⟨rfl,hwc⟩:=hcut;subst hwc;have c0:=T0.b0.cell 0 (.int .i64 0) rfl;have c1:=T0.b0.cell 1 (.string ⟨#[]⟩) rfl;have c2:=T0.b0.cell 2 (.int .i64 0) rfl;have c3:=T0.b0.cell 3 (.string ⟨#[]⟩) rfl;have c4:=T0.b0.cell 4 (.int .i64 0) rfl;have c5:=T0.b0.cell 5 (.slice none 0 0) rfl;have c6:=T0.b0.cell 6 (.slice none 0 0) rfl;have c7:=T0.b0.cell 7 (.slice none 0 0) rfl;have c8:=T0.b0.cell 8 (.slice none 0 0) rfl;have cf:=T0.b0.fz;have cl:=T0.b0.lt;have r1c:=T0.b1.cell 0 (.int .i64 0) rfl;have r1f:=T0.b1.fz;have r1l:=T0.b1.lt;have r2c:=T0.b2.cell 0 (.int .i64 0) rfl;have r2f:=T0.b2.fz;have r2l:=T0.b2.lt;go_upto_region 7 with (go_at_call 25;refine HCut.mono ?_;intro e w4 hp;obtain ⟨A,cap,rfl,hrow,hb⟩:=hp.good;have T4:=hid (T0.later hb);have HRow:=hid hrow;have HV4:=hid (HV3.later hb (qa _));clear hb hp hrow;clear c0 c1 c2 c3 c4 c5 c6 c7 c8 cf cl r1c r1f r1l r2c r2f r2l;obtain ⟨c0,c1,c2,c3,c4,c5,c6,c7,c8⟩:=T4.b0.r9 (.int .i64 0) (.string ⟨#[]⟩) (.int .i64 0) (.string ⟨#[]⟩) (.int .i64 0) (.slice none 0 0) (.slice none 0 0) (.slice none 0 0) (.slice none 0 0) rfl;have cf:=T4.b0.fz;have cl:=T4.b0.lt;have r1c:=T4.b1.cell 0 (.int .i64 0) rfl;have r1f:=T4.b1.fz;have r1l:=T4.b1.lt;have r2c:=T4.b2.cell 0 (.int .i64 0) rfl;have r2f:=T4.b2.fz;have r2l:=T4.b2.lt)
 generalize hW5:World.setCell (World.setCell w4 _ _) _ _=w5;have T5:=hid (show Three w lineZ 0 0 w5 from by rw [<-hW5];exact (T4.set1 0 rfl).set2 0 rfl);have HRow5:=hid (show w5.ownsRow wc.heap.size 67 3 (.slice A ws.length cap) ws.length (wflat ws) from by
  refine ownsRow_kept HRow.out (fun g hg=>?_);have h1:=(ownsRow_lt HRow.out g hg).1;have h2:=T0.lt;rw [<-hW5,qh _ _ _ _ (by simp;omega),qh _ _ _ _ (by simp;omega)])
 have HV5:=hid (show Vars w5 from by
  have h1:=HVl.out;rw [<-hW5];exact (HV4.set (fun e=>by have e:_=w.heap.size+1:=e;omega) (fun e=>by have e:_=w.heap.size+1:=e;omega) _).set (fun e=>by have e:_=w.heap.size+2:=e;omega) (fun e=>by have e:_=w.heap.size+2:=e;omega) _)
 clear hW5;clear c0 c1 c2 c3 c4 c5 c6 c7 c8 cf cl r1c r1f r1l r2c r2f r2l;have c0:=T5.b0.cell 0 (.int .i64 0) rfl;have c1:=T5.b0.cell 1 (.string ⟨#[]⟩) rfl;have c2:=T5.b0.cell 2 (.int .i64 0) rfl;have c3:=T5.b0.cell 3 (.string ⟨#[]⟩) rfl;have c4:=T5.b0.cell 4 (.int .i64 0) rfl;have c5:=T5.b0.cell 5 (.slice none 0 0) rfl;have c6:=T5.b0.cell 6 (.slice none 0 0) rfl;have c7:=T5.b0.cell 7 (.slice none 0 0) rfl;have c8:=T5.b0.cell 8 (.slice none 0 0) rfl;have cf:=T5.b0.fz;have cl:=T5.b0.lt;have r1c:=T5.b1.cell 0 (.int .i64 0) rfl;have r1f:=T5.b1.fz;have r1l:=T5.b1.lt;have r2c:=T5.b2.cell 0 (.int .i64 0) rfl;have r2f:=T5.b2.fz;have r2l:=T5.b2.lt;obtain ⟨s,hpb,hws,he,hwa,hP⟩:=PAt.start HV5.out HRow5.out HC.out;obtain rfl:A=some ⟨s.wb,0,none⟩:=by rw [<-hwa];exact (hP.words.at_ 0 x0 (by rw [hws];exact H0.out)).1
 have T6:=hid (T5.later ((qb w5.heap.size w5).alloc (qa _) (.cells #[.slice (some ⟨s.wb,0,none⟩) ws.length cap,.int .i64 0,.int .i64 (S.size:Int),.int .i64 0] 65)));have hlt6:=T5.lt;have HWb:=hid (show w.heap.size+3<=s.wb from qi T0.lt (ownsRow_lt HRow5.out s.wb rfl).1);go_upto_region 11 with fail
 generalize hW6:w5.alloc (.cells #[.slice (some ⟨s.wb,0,none⟩) ws.length cap,.int .i64 0,.int .i64 (S.size:Int),.int .i64 0] 65)=w6 at T6 hP ⊢;have hs6:w5.heap.size<w6.heap.size:=by rw [<-hW6];simp
 have HP:=hid hP;have HPb:=hid (show s.pb=w5.heap.size/\w.heap.size+2<w5.heap.size/\w5.heap.size<w6.heap.size from ⟨hpb,hlt6,hs6⟩);have HWs:=hid (And.intro hws he);clear hW6 hs6 hlt6 hwa hP;clear c0 c1 c2 c3 c4 c5 c6 c7 c8 cf cl r1c r1f r1l r2c r2f r2l;rw [<-hpb];clear hpb hws he;obtain ⟨-,k10,k11,k12⟩:=HP.words.at_ 1 x1 (by rw [HWs.out.1];exact H1.out);simp only [Nat.one_mul] at k10 k11 k12;obtain ⟨-,k00,k01,k02⟩:=HP.words.at_ 0 x0 (by rw [HWs.out.1];exact H0.out);simp only [Nat.zero_mul,Nat.zero_add] at k00 k01 k02;rw [HK.out] at k00;go_upto_region 12 with fail
 go_quiet (fail);generalize hWq:World.drewN w6 _=w7;have hbq:Below w6.heap.size w6 w7:=hWq▸below_drewN (qb _ _) _;have HP7:=hid (HP.later hbq);have T7:=hid (T6.later hbq);have HS7:=hid hbq.size;clear hWq hbq k00 k01 k02 k10 k11 k12;obtain ⟨-,k00,k01,k02⟩:=HP7.words.at_ 0 x0 (by rw [HWs.out.1];exact H0.out);simp only [Nat.zero_mul,Nat.zero_add] at k00 k01 k02;rw [HK.out] at k00;have p1:=HP7.c1;have pf:=HP7.fz;have pl:=HP7.lt;go_upto_region 18 with fail
 generalize hW8:World.setCell w7 _ _=w8;have HPn:=hid (show PAt w8 s 2 0 from by rw [<-hW8];exact HP7.next 2 rfl);have hb8:Below (w.heap.size+3) w7 w8:=by rw [<-hW8];exact (qb _ _).setCell (p:=⟨s.pb,1,none⟩) (by have:=HPb.out;show w.heap.size+3<=s.pb;omega) _
 have T8:=hid (T7.past hb8 (qa _));have HS8:=hid hb8.size;clear hW8 hb8 p1 pf pl k00 k01 k02;have HNe:=hid (show s.wb≠s.pb from HPn.ok.ne);have hwb0:¬s.wb=w.heap.size:=by have:=HWb.out;omega
 have hwb1:¬s.wb=w.heap.size+1:=by have:=HWb.out;omega
 have hwb2:¬s.wb=w.heap.size+1+1:=by have:=HWb.out;omega
 have hwb0':¬w.heap.size=s.wb:=by have:=HWb.out;omega
 have hwb1':¬w.heap.size+1=s.wb:=by have:=HWb.out;omega
 have hwb2':¬w.heap.size+1+1=s.wb:=by have:=HWb.out;omega
 obtain ⟨-,k00,k01,k02⟩:=HPn.words.at_ 0 x0 (by rw [HWs.out.1];exact H0.out);simp only [Nat.zero_mul,Nat.zero_add] at k00 k01 k02;cases hA:all ws S.size 2 3 (place ws S.size 2) with
 |ok t=>
  have hr2:all s.ws s.e 2 3 (place s.ws s.e 2)=.ok t:=by rw [HWs.out.1,HWs.out.2];exact hA
  have HAll:=hid (fun W hP=>all_is (w:=W) hr2 hP);have hr3:=HR.out;rw [hA] at hr3;have HRz:=hid (show R0=.ok (.named 3 x0.text t) from hr3);clear hr2 hr3 hA;go_region_held3 (fun w'=>w'.cell? ⟨s.wb,1,none⟩=some (.string (bytes x0.text)))
   (first|(with_reducible exact K10.out)|(with_reducible exact K9.out)|go_keep)
   (first
    |(go_at_call 29;refine (place_calls s 2 0 _ (HPn.later (by go_grown))).mono ?_;rintro e w9 ⟨rfl,hb⟩;have hb0:=Below_then hb (show Below w8.heap.size w8 _ from by go_grown);have HP9:=hid (HPn.later hb0);have T9:=hid (T8.later hb0);have HS9:=hid hb0.size;have K9:=hid (show w9.cell? ⟨s.wb,1,none⟩=some (.string (bytes x0.text)) from (by have:=(HP9.words.at_ 0 x0 (by rw [HWs.out.1];exact H0.out)).2.2.1;simpa using this));clear hb hb0)
    |(go_at_call 28;refine (HAll.out _ HP9.out).mono ?_;intro e w10 hp;obtain ⟨y,G,rfl,hO,hG,hA⟩:=hp;have T10:=hid (T9.away hA (by have:=HPb.out;omega));have HO:=hid hO;have HG:=hid hG;have HA:=hid hA.size;have K10:=hid (show w10.cell? ⟨s.wb,1,none⟩=some (.string (bytes x0.text)) from (hA.cell (q:=⟨s.wb,1,none⟩) (qc _ _ K9.out) (by exact HNe.out)).trans K9.out);clear hO hG hA;simp only [TV.val,TV.cells];obtain ⟨c0,c1,c2,c3,c4,c5,c6,c7,c8⟩:=T10.b0.r9 (.int .i64 0) (.string ⟨#[]⟩) (.int .i64 0) (.string ⟨#[]⟩) (.int .i64 0) (.slice none 0 0) (.slice none 0 0) (.slice none 0 0) (.slice none 0 0) rfl;have cf:=T10.b0.fz;have cl:=T10.b0.lt;have r1c:=T10.b1.cell 0 (.int .i64 0) rfl;have r1f:=T10.b1.fz;have r1l:=T10.b1.lt;have r2c:=T10.b2.cell 0 (.int .i64 0) rfl;have r2f:=T10.b2.fz;have r2l:=T10.b2.lt))
  all_goals
   go_wp2_with fail
   generalize hW11:World.setCell (World.setCell _ _ _) _ _=w11;have T11:=hid (show Three w #[.int .i64 3,.string (bytes x0.text),.int .i64 y.kind,.string y.text,.int .i64 y.n,.slice y.sa y.sl y.sc,.slice y.aa y.al y.ac,.slice y.ka y.kl y.kc,.slice none 0 0] 0 0 w11 from by rw [<-hW11];exact ((T10.line _ _ _ _ _ _ _ _ _).set1 0 rfl).set2 0 rfl);have HO11:=hid (show Own w11 t y G from by
    refine Own.kept t y G HO.out (fun b hb=>?_);have h1:=((HG.mem b hb).resolve_left (by simp)).1;have h2:=HPb.out;have h3:=HS7.out;have h4:=HS8.out;have h5:=HS9.out;rw [<-hW11];exact eleven_rest _ (by omega) _ _ _ _ _ _ _ _ _ _ _)
   have HS11:=hid (show w11.heap.size=w10.heap.size from by rw [<-hW11];simp [World.setCell]);clear hW11;clear c0 c1 c2 c3 c4 c5 c6 c7 c8 cf cl r1c r1f r1l r2c r2f r2l;refine leaves_cons (f:=26) (args:=#[.pointer (some ⟨w.heap.size,0,none⟩),.pointer (some ⟨w.heap.size+1,0,none⟩),.pointer (some ⟨w.heap.size+1+1,0,none⟩)]) (by simp) (by simp [go_sem]) ?_;refine (catchL_idle _ _ _ _).mono ?_;rintro e u' w12 ⟨rfl,rfl,hb12⟩;have T12:=hid (T11.later hb12);have c0:=T12.b0.cell 0 (.int .i64 3) rfl;have c1:=T12.b0.cell 1 (.string (bytes x0.text)) rfl;have c2:=T12.b0.cell 2 (.int .i64 y.kind) rfl;have c3:=T12.b0.cell 3 (.string y.text) rfl;have c4:=T12.b0.cell 4 (.int .i64 y.n) rfl;have c5:=T12.b0.cell 5 (.slice y.sa y.sl y.sc) rfl;have c6:=T12.b0.cell 6 (.slice y.aa y.al y.ac) rfl;have c7:=T12.b0.cell 7 (.slice y.ka y.kl y.kc) rfl;have c8:=T12.b0.cell 8 (.slice none 0 0) rfl;have cf:=T12.b0.fz;have cl:=T12.b0.lt;have r1c:=T12.b1.cell 0 (.int .i64 0) rfl;have r1f:=T12.b1.fz;have r1l:=T12.b1.lt;have r2c:=T12.b2.cell 0 (.int .i64 0) rfl;have r2f:=T12.b2.fz;have r2l:=T12.b2.lt;refine ⟨.tuple #[lineV 3 ((bytes x0.text)) y (.slice none 0 0),.int .i64 0,.int .i64 0],by simp [results,Tryz.results13,lineV,zeroTV,TV.val,TV.cells,c0,c1,c2,c3,c4,c5,c6,c7,c8,cf,r1c,r1f,r2c,r2f,go_sem],?_⟩;rw [HRz.out];exact ⟨_,rfl,⟨y,G,rfl,Own.later' HO11.out hb12,HG.mono (by have:=HPb.out;have:=HS7.out;have:=HS8.out;have:=HS9.out;omega) (by have:=HS11.out;have:=hb12.size;omega)⟩,T12.below⟩
 |bad c p=>
  have hr2:all s.ws s.e 2 3 (place s.ws s.e 2)=.bad c p:=by rw [HWs.out.1,HWs.out.2];exact hA
  have HAll:=hid (fun W hP=>all_is (w:=W) hr2 hP);have hr3:=HR.out;rw [hA] at hr3;have HRz:=hid (show R0=.bad c p from hr3);clear hr2 hr3 hA;refine wp_region_held_drew (S:=(fun w'=>w'.cell? ⟨s.wb,1,none⟩=some (.string (bytes x0.text)))) (by kernel_rfl) (by go_keep) (fun hHeld=>?_);refine wpAnyH_take (i:=0) (v:=?_) rfl (by kernel_rfl) (by kernel_rfl) (by kernel_rfl) (fun c a w h=>line_panic_put (by decide) _ c a w h) (Or.inl ⟨by rfl,?_⟩) (by assumption) ?_;rotate_left
  ·intro w hSw
   (try dsimp only at hSw)
   go_simp;try with_reducible rfl
  try simp only [Act.put,qk,qll,qm]
  refine wpAnyH_take (i:=1) (v:=?_) rfl (by kernel_rfl) (by kernel_rfl) (by kernel_rfl) (fun c a w h=>line_panic_put (by decide) _ c a w h) (Or.inl ⟨by rfl,?_⟩) (by assumption) ?_;rotate_left
  ·intro w hSw
   (try dsimp only at hSw)
   go_simp;try with_reducible rfl
  try simp only [Act.put,qk,qll,qm]
  refine wpAnyH_take (i:=2) (v:=?_) rfl (by kernel_rfl) (by kernel_rfl) (by kernel_rfl) (fun c a w h=>line_panic_put (by decide) _ c a w h) (Or.inl ⟨by rfl,?_⟩) (by assumption) ?_;rotate_left
  ·intro w hSw
   (try dsimp only at hSw)
   go_simp;try with_reducible rfl
  try simp only [Act.put,qk,qll,qm]
  refine wpAnyH_take (i:=3) (v:=?_) rfl (by kernel_rfl) (by kernel_rfl) (by kernel_rfl) (fun c a w h=>line_panic_put (by decide) _ c a w h) (Or.inl ⟨by rfl,?_⟩) (by assumption) ?_;rotate_left
  ·intro w hSw
   (try dsimp only at hSw)
   go_simp;try with_reducible rfl
  try simp only [Act.put,qk,qll,qm]
  refine wpAnyH_take (i:=4) (v:=?_) rfl (by kernel_rfl) (by kernel_rfl) (by kernel_rfl) (fun c a w h=>line_panic_put (by decide) _ c a w h) (Or.inl ⟨by rfl,?_⟩) (by assumption) ?_;rotate_left
  ·intro w hSw
   (try dsimp only at hSw)
   go_simp;try with_reducible rfl
  try simp only [Act.put,qk,qll,qm]
  refine wpAnyH_take (i:=5) (v:=?_) rfl (by kernel_rfl) (by kernel_rfl) (by kernel_rfl) (fun c a w h=>line_panic_put (by decide) _ c a w h) (Or.inl ⟨by rfl,?_⟩) (by assumption) ?_;rotate_left
  ·intro w hSw
   (try dsimp only at hSw)
   go_simp;try with_reducible rfl
  try simp only [Act.put,qk,qll,qm]
  refine wpAnyH_take (i:=6) (v:=?_) rfl (by kernel_rfl) (by kernel_rfl) (by kernel_rfl) (fun c a w h=>line_panic_put (by decide) _ c a w h) (Or.inl ⟨by rfl,?_⟩) (by assumption) ?_;rotate_left
  ·intro w hSw
   (try dsimp only at hSw)
   go_simp;try with_reducible rfl
  try simp only [Act.put,qk,qll,qm]
  refine wpAnyH_take (i:=7) (v:=?_) rfl (by kernel_rfl) (by kernel_rfl) (by kernel_rfl) (fun c a w h=>line_panic_put (by decide) _ c a w h) (Or.inl ⟨by rfl,?_⟩) (by assumption) ?_;rotate_left
  ·intro w hSw
   (try dsimp only at hSw)
   go_simp;try with_reducible rfl
  try simp only [Act.put,qk,qll,qm]
  refine wpAnyH_ready (rs:=[8]) (by kernel_rfl) (by simp) ?_;refine AllReadyH.cons rfl (fun K hK=>?_) AllReadyH.nil;go_simp;go_wp2_with (go_at_call 29;refine (place_calls s 2 0 _ (HPn.later (by go_grown))).mono ?_;rintro e w9 ⟨rfl,hb⟩;have hb0:=Below_then hb (show Below w8.heap.size w8 _ from by go_grown);have HP9:=hid (HPn.later hb0);have T9:=hid (T8.later hb0);have HS9:=hid hb0.size;have K9:=hid (show w9.cell? ⟨s.wb,1,none⟩=some (.string (bytes x0.text)) from (by have:=(HP9.words.at_ 0 x0 (by rw [HWs.out.1];exact H0.out)).2.2.1;simpa using this));clear hb hb0)
  refine hK.out _ _ ?_ (fun hHeld=>?_)
  ·exact K9.out
  clear hK K;try simp only [Act.put,qk,qll,qm]
  refine wpAnyH_ready (rs:=[9]) (by kernel_rfl) (by simp) ?_;refine AllReadyH.cons rfl (fun K hK=>?_) AllReadyH.nil;go_simp;go_wp2_with (go_at_call 28;refine (HAll.out _ HP9.out).mono ?_;intro e w10 hp;obtain ⟨rfl,hA⟩:=hp;have T10:=hid (T9.away hA (by have:=HPb.out;omega));clear hA)
  refine leaves_cons (f:=26) (args:=#[.pointer (some ⟨w.heap.size,0,none⟩),.pointer (some ⟨w.heap.size+1,0,none⟩),.pointer (some ⟨w.heap.size+1+1,0,none⟩)]) (by simp) (by simp [go_sem]) ?_;refine (catchL_fault w.heap.size (w.heap.size+1) (w.heap.size+1+1) (c) (p) [] _ _ _ _ _ _ _ _ _ _ _ _ (by omega) (by omega) (by omega) (by omega) (by omega) (by omega) (T10.b1.cell 0 (.int .i64 0) rfl) (T10.b1.fz 0) (T10.b2.cell 0 (.int .i64 0) rfl) (T10.b2.fz 0) (T10.b0.cell 0 (.int .i64 0) rfl) (T10.b0.cell 1 (.string ⟨#[]⟩) rfl) (T10.b0.cell 2 (.int .i64 0) rfl) (T10.b0.cell 3 (.string ⟨#[]⟩) rfl) (T10.b0.cell 4 (.int .i64 0) rfl) (T10.b0.cell 5 (.slice none 0 0) rfl) (T10.b0.cell 6 (.slice none 0 0) rfl) (T10.b0.cell 7 (.slice none 0 0) rfl) (T10.b0.cell 8 (.slice none 0 0) rfl) T10.b0.fz).mono ?_;rintro e u' w11 ⟨rfl,rfl,hb11⟩;unfold zeroLine at hb11;have T11:=hid ((((T10.line _ _ _ _ _ _ _ _ _).set1 (p) rfl).set2 (c) rfl).later (by simpa [World.setCell] using hb11));have c0:=T11.b0.cell 0 (.int .i64 0) rfl;have c1:=T11.b0.cell 1 (.string ⟨#[]⟩) rfl;have c2:=T11.b0.cell 2 (.int .i64 0) rfl;have c3:=T11.b0.cell 3 (.string ⟨#[]⟩) rfl;have c4:=T11.b0.cell 4 (.int .i64 0) rfl;have c5:=T11.b0.cell 5 (.slice none 0 0) rfl;have c6:=T11.b0.cell 6 (.slice none 0 0) rfl;have c7:=T11.b0.cell 7 (.slice none 0 0) rfl;have c8:=T11.b0.cell 8 (.slice none 0 0) rfl;have cf:=T11.b0.fz;have cl:=T11.b0.lt;have r1c:=T11.b1.cell 0 (.int .i64 p) rfl;have r1f:=T11.b1.fz;have r1l:=T11.b1.lt;have r2c:=T11.b2.cell 0 (.int .i64 c) rfl;have r2f:=T11.b2.fz;have r2l:=T11.b2.lt;refine ⟨.tuple #[lineV 0 ⟨#[]⟩ zeroTV (.slice none 0 0),.int .i64 p,.int .i64 c],by simp [results,Tryz.results13,lineV,zeroTV,TV.val,TV.cells,c0,c1,c2,c3,c4,c5,c6,c7,c8,cf,r1c,r1f,r2c,r2f,go_sem],?_⟩;rw [HRz.out];exact ⟨rfl,T11.below⟩
end Pz
end Go.Proofs.YtimcmghhbdfjfaaGreatDoor
