/- Layer 15's law. -/
import Derived.Test.YtimcmghhbdfjfaaGreatDoorQRdA
set_option linter.unusedVariables false
set_option linter.unusedSimpArgs false
set_option maxRecDepth 100000
set_option maxHeartbeats 4000000
namespace Go.Proofs.YtimcmghhbdfjfaaGreatDoor
open Go.RowKit
namespace Pz
theorem bl_app (a b:ByteArray):bl (a++b)=bl a++bl b:=by simp [bl]
theorem line_good (S:ByteArray) (w:World) (hv:Vars w) {s:List UInt8} (hS:bl S=s) {ws:List W} {x0:W} (hb:¬4096<s.length) {n:Nat} (hq:span (·==32) s=n/\s[n]? ≠some 41) (hc:cut s=.ok ws) (h0:ws[0]? =some x0) (hk:∀ v,ws[1]? =some v->v.kind=7/\v.text=[61,58]->x0.kind=2\/x0.kind=3):Calls Tryz.prog 13 #[.string S] w (PLine w (line s)):=by
 subst hS;rw [bl_len] at hb;have hq':¬(bl S)[span (·==32) (bl S)]? =some 41:=by rw [hq.1];exact hq.2
 by_cases hn:∃ x1,ws[1]? =some x1/\x1.kind=7/\x1.text=[61,58]
 ·obtain ⟨x1,h1,h2⟩:=hn
  rcases hk x1 h1 h2 with k|k
  ·exact line_c4 S w hv hb hq' hc h0 h1 h2 k
  ·exact line_c5 S w hv hb hq' hc h0 h1 h2 k
 ·exact line_c3 S w hv hb hq' hc h0 (fun v hv' h=>hn ⟨v,hv',h⟩)
section
variable {t:T} {c:Int} {l:List Pp.Pc} {S:ByteArray}
theorem named_line (h:Pp.Reads t l) {wd:List UInt8} {k:Int} (hw:(k=3/\wd=[86,101,114,98])\/(k=2/\wd=[110,111,117,110])) (hl:(Pp.rn l).length<=4000) (hS:bl S=wd++[32,61,58,32]++Pp.rn l) (W:World) (hv:Vars W):Calls Tryz.prog 13 #[.string S] W (PLine W (line (wd++[32,61,58,32]++Pp.rn l))):=by
 obtain ⟨h1,h2,h3⟩:=Pp.named_cut h hw hl;exact line_good S W hv hS h1 h2 h3 rfl (fun v _ _=>by rcases hw with ⟨rfl,_⟩|⟨rfl,_⟩<;>simp)
theorem said_line (h:Pp.Reads t l) {p:List UInt8} (hp:Pp.Post p) (hl:(Pp.rn l).length<=4000) (hS:bl S=[32,32]++Pp.rn l++p) (W:World) (hv:Vars W):Calls Tryz.prog 13 #[.string S] W (PLine W (line ([32,32]++Pp.rn l++p))):=by
 obtain ⟨h1,h2,x,m,h3,-,h5⟩:=Pp.said_cut h hp hl;exact line_good S W hv hS h1 h2 h3 rfl (fun v hv' hq=>(h5 v m.tail (by cases m with|nil=>cases hv'|cons a r=>cases hv';rfl) hq).elim)
theorem lread_named (h:T.may t c=0) (hr:Pp.Reads t l) {wd:List UInt8} {k:Int} (hw:(k=3/\wd=[86,101,114,98])\/(k=2/\wd=[110,111,117,110])) (hl:(Pp.rn l).length<=4000) (hk:(if k=3 then 3 else 1)=c) (hS:bl S=wd++[32,61,58,32]++Pp.rn l) (W:World) (hv:Vars W):Calls Tryz.prog 13 #[.string S] W fun e w'=>∃ y,e=.returned (.tuple #[lineV k (bytes wd) y (.slice none 0 0),.int .i64 0,.int .i64 0])/\Rep w' w'.heap.size t y/\Below W.heap.size W w':=by
 have hc:=named_line hr hw hl hS W hv;rw [Pp.line_named hr hw hl,hk,if_neg (by rw [(Pp.may_parts h).2.2];simp),if_neg (by rw [h];simp)] at hc;refine hc.mono ?_;rintro e w' ⟨v,rfl,⟨y,G,rfl,hO,hG⟩,hb⟩;exact ⟨y,rfl,Own.rep t y G hO (own_lt t y G hO),hb⟩
theorem lread_wrong (h:T.may t c=0) (hr:Pp.Reads t l) {wd:List UInt8} {k:Int} (hw:(k=3/\wd=[86,101,114,98])\/(k=2/\wd=[110,111,117,110])) (hl:(Pp.rn l).length<=4000) (hk:c≠(if k=3 then 3 else 1)) (hS:bl S=wd++[32,61,58,32]++Pp.rn l) (W:World) (hv:Vars W):Calls Tryz.prog 13 #[.string S] W fun e w'=>e=.returned (.tuple #[lineV 0 ⟨#[]⟩ zeroTV (.slice none 0 0),.int .i64 8,.int .i64 5])/\Below W.heap.size W w':=by
 have hc:=named_line hr hw hl hS W hv;rw [Pp.line_named hr hw hl,if_pos (by rw [(Pp.may_parts h).2.2];exact hk)] at hc;exact hc
theorem lread_said (h:T.may t 1=0) (hr:Pp.Reads t l) (hl:(Pp.rn l).length<=4000) (hS:bl S=[32,32]++Pp.rn l++[32,78,66,46,32,61,32,41]) (W:World) (hv:Vars W):Calls Tryz.prog 13 #[.string S] W fun e w'=>∃ y,e=.returned (.tuple #[lineV 1 ⟨#[]⟩ y (.slice none 0 0),.int .i64 0,.int .i64 0])/\Rep w' w'.heap.size t y/\Below W.heap.size W w':=by
 have hc:=said_line hr (.inr rfl) hl hS W hv;rw [Pp.line_said hr (.inr rfl) hl,if_neg (by rw [(Pp.may_parts h).2.2];simp),if_neg (by rw [h];simp)] at hc;refine hc.mono ?_;rintro e w' ⟨v,rfl,⟨y,G,rfl,hO,hG⟩,hb⟩;exact ⟨y,rfl,Own.rep t y G hO (own_lt t y G hO),hb⟩
theorem lread_kind (h:T.may t 3=0) (hr:Pp.Reads t l) (hl:(Pp.rn l).length<=4000) (hS:bl S=[32,32]++Pp.rn l++[]) (W:World) (hv:Vars W):Calls Tryz.prog 13 #[.string S] W fun e w'=>e=.returned (.tuple #[lineV 0 ⟨#[]⟩ zeroTV (.slice none 0 0),.int .i64 2,.int .i64 5])/\Below W.heap.size W w':=by
 have hc:=said_line hr (.inl rfl) hl hS W hv;rw [Pp.line_said hr (.inl rfl) hl,if_pos (by rw [(Pp.may_parts h).2.2];decide)] at hc;exact hc
end
theorem lined_calls {t:T} {x:TV} {w:World} (hr:Rep w w.heap.size t x) (hg:Pp.rng t=true) (hv:Vars w) (hT:Tabs w.heap.size w):Calls Tryz.prog 4 #[x.val] w fun e w'=>e=.returned (.bool true)/\Below w.heap.size w w':=by
 have X0:=hid (Boxd.new w x.cells 28);have HB0:=hid ((qb w.heap.size w).alloc (qa _) (.cells x.cells 28));generalize hw0:w.alloc (.cells x.cells 28)=w0 at X0 HB0;have HW0:=hid hw0;have HR:=hid hr;have HG:=hid hg;have HV:=hid hv;have HT:=hid hT;have HV0:=hid (hv.later HB0.out (qa _));clear hw0 hr hg hv hT;unfold TV.cells at HW0;unfold TV.val TV.cells;go_enter Tryz.func4,Tryz.ntmps4
 go_upto_region 1 with fail
 rw [HW0.out];go_upto_region 3 with (go_at_call 6;refine (begun_calls _ HV0.out).mono ?_;rintro e w1 ⟨rfl,hb⟩;have HB1:=hid (HB0.trans (hb.mono HB0.size));have X1:=hid (X0.later hb);clear hb X0 HB0)
 obtain ⟨c0,c1,c2,c3,c4,c5⟩:=X1.rt x rfl;by_cases h3:T.may t 3=0
 ·have hm:=may_at HR.out HB1.out 3
  rw [h3] at hm;have HM:=hid hm;have HMc:=hid h3;clear hm h3;go_upto_region 4 with (go_at_call 7;refine HM.mono ?_;rintro e wA ⟨rfl,hb⟩;have HBA:=hid (HB1.trans (hb.mono HB1.size));have XA:=hid (X1.later hb);clear hb c0 c1 c2 c3 c4 c5 HB1 X1 HM)
  by_cases hl:(Pp.rn (Pp.text t)).length<=1048576
  ·have HP:=hid (pverb_ok HR.out HG.out HT.out HBA.out HMc.out hl)
   by_cases h4:(Pp.rn (Pp.text t)).length<=4000
   ·have hrd:=Pp.reads_brackets HMc.out (by decide) HG.out 0 (high_is HMc.out)
    have s4:¬(4000:Int)<((bytes (Pp.rn (Pp.text t))).size:Int):=by rw [<-bl_len,bl_bytes];omega
    have n8:¬9223372036854775807<8+(bytes (Pp.rn (Pp.text t))).size:=by rw [<-bl_len,bl_bytes];omega
    have n2:¬9223372036854775807<2+(bytes (Pp.rn (Pp.text t))).size:=by rw [<-bl_len,bl_bytes];omega
    have R1:=hid (lread_named HMc.out hrd (.inl ⟨rfl,rfl⟩) h4 (by decide) (S:=⟨#[86,101,114,98,32,61,58,32]⟩++bytes (Pp.rn (Pp.text t))) (by rw [bl_app,bl_bytes];rfl));have R2:=hid (lread_wrong HMc.out hrd (.inr ⟨rfl,rfl⟩) h4 (by decide) (S:=⟨#[110,111,117,110,32,61,58,32]⟩++bytes (Pp.rn (Pp.text t))) (by rw [bl_app,bl_bytes];rfl));have R3:=hid (lread_kind HMc.out hrd h4 (S:=⟨#[32,32]⟩++bytes (Pp.rn (Pp.text t))) (by rw [bl_app,bl_bytes,qg];rfl));clear hrd hl h4;generalize bytes (Pp.rn (Pp.text t))=S at HP R1 R2 R3 s4 n8 n2;obtain ⟨c0,c1,c2,c3,c4,c5⟩:=XA.rt x rfl;go_upto_region 7 with (go_at_call 8;refine HP.mono ?_;rintro e wB ⟨rfl,hb⟩;have HBB:=hid (HBA.trans (hb.mono HBA.size));have XB:=hid (XA.later hb);clear hb c0 c1 c2 c3 c4 c5 HBA XA HP)
    clear s4;have HVB:=hid (HV.later HBB.out (qa _));go_upto_region 8 with (go_at_call 13;refine (R1.out _ HVB.out).mono ?_;rintro e wC ⟨y,rfl,hy,hb⟩;have HY:=hid hy;have HBC:=hid hb;clear hy hb;simp only [lineV])
    generalize hWD:World.alloc wC _=wD;have hbd:Below wC.heap.size wC wD:=hWD▸(qb _ _).alloc (qa _) _;have hbb:Below wB.heap.size wB wD:=HBC.trans (hbd.mono HBC.size);have LD:=hid (show Boxd wD wC.heap.size #[.int .i64 3,.string (bytes [86,101,114,98]),.int .i64 y.kind,.string y.text,.int .i64 y.n,.slice y.sa y.sl y.sc,.slice y.aa y.al y.ac,.slice y.ka y.kl y.kc,.slice none 0 0] from hWD▸Boxd.new wC _ 40);have HYD:=hid (rep_at HY.out hbd);have XD:=hid (XB.later hbb);have HBD:=hid (HBB.trans (hbb.mono HBB.size));have HVD:=hid (HV.later HBD.out (qa _));clear hWD hbd hbb XB HBB HY HBC R1;go_upto_region 9 with (go_at_call 13;refine (R2.out _ HVD.out).mono ?_;rintro e wE ⟨rfl,hb⟩;have HBE:=hid hb;clear hb;simp only [lineV,zeroTV])
    generalize hWF:World.alloc wE _=wF;have hbf:Below wD.heap.size wD wF:=hWF▸HBE.trans (((qb _ _).alloc (qa _) _).mono HBE.size);have XF:=hid (XD.later hbf);have LF:=hid (LD.later hbf);have HYF:=hid (rep_at HYD.out hbf);have HBF:=hid (HBD.trans (hbf.mono HBD.size));have HVF:=hid (HV.later HBF.out (qa _));clear hWF hbf HBE XD LD HBD R2 HYD;go_upto_region 10 with (go_at_call 13;refine (R3.out _ HVF.out).mono ?_;rintro e wG ⟨rfl,hb⟩;have HBG:=hid hb;clear hb;simp only [lineV,zeroTV])
    generalize hWH:World.alloc wG _=wH;have hbh:Below wF.heap.size wF wH:=hWH▸HBG.trans (((qb _ _).alloc (qa _) _).mono HBG.size);have XH:=hid (XF.later hbh);have LH:=hid (LF.later hbh);have HYH:=hid (rep_at HYF.out hbh);have HBH:=hid (HBF.trans (hbh.mono HBF.size));have HS:=hid (same_at HMc.out HYH.out (rep_at HR.out HBH.out));clear hWH hbh XF LF HBF HBG;obtain ⟨c0,c1,c2,c3,c4,c5⟩:=XH.rt x rfl;obtain ⟨d0,d1,d2,d3,d4,d5,d6,d7,d8⟩:=LH.r9 (.int .i64 3) (.string (bytes [86,101,114,98])) (.int .i64 y.kind) (.string y.text) (.int .i64 y.n) (.slice y.sa y.sl y.sc) (.slice y.aa y.al y.ac) (.slice y.ka y.kl y.kc) (.slice none 0 0) rfl;have tq:((bytes [86,101,114,98]).toList==[86,101,114,98])=true:=by rw [text_beq];rfl
    go_wp2_with (go_at_call 11;refine HS.mono ?_;rintro e wI ⟨rfl,hb⟩;have HBI:=hid (HBH.trans (hb.mono HBH.size));clear hb)
    go_ret;exact ⟨rfl,HBI.out⟩
   ·have s4:(4000:Int)<((bytes (Pp.rn (Pp.text t))).size:Int):=by rw [<-bl_len,bl_bytes];omega
    clear hl h4;obtain ⟨c0,c1,c2,c3,c4,c5⟩:=XA.rt x rfl;go_wp2_with (go_at_call 8;refine HP.mono ?_;rintro e wB ⟨rfl,hb⟩;have HBB:=hid (HBA.trans (hb.mono HBA.size));clear hb c0 c1 c2 c3 c4 c5)
    go_ret;exact ⟨rfl,HBB.out⟩
  ·have HP:=hid (pverb_long HR.out HG.out HT.out HBA.out HMc.out hl)
   clear hl;obtain ⟨c0,c1,c2,c3,c4,c5⟩:=XA.rt x rfl;go_wp2_with (go_at_call 8;refine HP.mono ?_;rintro e wB ⟨rfl,hb⟩;have HBB:=hid (HBA.trans (hb.mono HBA.size));clear hb c0 c1 c2 c3 c4 c5)
   go_ret;exact ⟨rfl,HBB.out⟩
 ·have hm:=may_at HR.out HB1.out 3
  have f3:(T.may t 3==0)=false:=by simp [h3]
  have HM:=hid hm;clear hm h3;go_upto_region 11 with (go_at_call 7;refine HM.mono ?_;rintro e w2 ⟨rfl,hb⟩;have HB2:=hid (HB1.trans (hb.mono HB1.size));have X2:=hid (X1.later hb);clear hb c0 c1 c2 c3 c4 c5 HB1 X1 HM)
  clear f3;obtain ⟨c0,c1,c2,c3,c4,c5⟩:=X2.rt x rfl;by_cases h1:T.may t 1=0
  ·have hm:=may_at HR.out HB2.out 1
   rw [h1] at hm;have HM:=hid hm;have HMc:=hid h1;clear hm h1;go_upto_region 13 with (go_at_call 7;refine HM.mono ?_;rintro e wA ⟨rfl,hb⟩;have HBA:=hid (HB2.trans (hb.mono HB2.size));have XA:=hid (X2.later hb);clear hb c0 c1 c2 c3 c4 c5 HB2 X2 HM)
   by_cases hl:(Pp.rn (Pp.text t)).length<=1048576
   ·have HP:=hid (pnoun_ok HR.out HG.out HT.out HBA.out HMc.out hl)
    by_cases h4:(Pp.rn (Pp.text t)).length<=4000
    ·have hrd:=Pp.reads_brackets HMc.out (by decide) HG.out 0 (high_is HMc.out)
     have s4:¬(4000:Int)<((bytes (Pp.rn (Pp.text t))).size:Int):=by rw [<-bl_len,bl_bytes];omega
     have n8:¬9223372036854775807<8+(bytes (Pp.rn (Pp.text t))).size:=by rw [<-bl_len,bl_bytes];omega
     have n2:¬9223372036854775807<2+(bytes (Pp.rn (Pp.text t))).size:=by rw [<-bl_len,bl_bytes];omega
     have R1:=hid (lread_named HMc.out hrd (.inr ⟨rfl,rfl⟩) h4 (by decide) (S:=⟨#[110,111,117,110,32,61,58,32]⟩++bytes (Pp.rn (Pp.text t))) (by rw [bl_app,bl_bytes];rfl));have R2:=hid (lread_wrong HMc.out hrd (.inl ⟨rfl,rfl⟩) h4 (by decide) (S:=⟨#[86,101,114,98,32,61,58,32]⟩++bytes (Pp.rn (Pp.text t))) (by rw [bl_app,bl_bytes];rfl));have R3:=hid (lread_said HMc.out hrd h4 (S:=⟨#[32,32]⟩++bytes (Pp.rn (Pp.text t))++⟨#[32,78,66,46,32,61,32,41]⟩) (by rw [bl_app,bl_app,bl_bytes];rfl));clear hrd hl h4;generalize bytes (Pp.rn (Pp.text t))=S at HP R1 R2 R3 s4 n8 n2;obtain ⟨c0,c1,c2,c3,c4,c5⟩:=XA.rt x rfl;go_upto_region 16 with (go_at_call 12;refine HP.mono ?_;rintro e wB ⟨rfl,hb⟩;have HBB:=hid (HBA.trans (hb.mono HBA.size));have XB:=hid (XA.later hb);clear hb c0 c1 c2 c3 c4 c5 HBA XA HP)
     clear s4;have HVB:=hid (HV.later HBB.out (qa _));go_upto_region 17 with (go_at_call 13;refine (R1.out _ HVB.out).mono ?_;rintro e wC ⟨y,rfl,hy,hb⟩;have HY:=hid hy;have HBC:=hid hb;clear hy hb;simp only [lineV])
     generalize hWD:World.alloc wC _=wD;have hbd:Below wC.heap.size wC wD:=hWD▸(qb _ _).alloc (qa _) _;have hbb:Below wB.heap.size wB wD:=HBC.trans (hbd.mono HBC.size);have LD:=hid (show Boxd wD wC.heap.size #[.int .i64 2,.string (bytes [110,111,117,110]),.int .i64 y.kind,.string y.text,.int .i64 y.n,.slice y.sa y.sl y.sc,.slice y.aa y.al y.ac,.slice y.ka y.kl y.kc,.slice none 0 0] from hWD▸Boxd.new wC _ 40);have HYD:=hid (rep_at HY.out hbd);have XD:=hid (XB.later hbb);have HBD:=hid (HBB.trans (hbb.mono HBB.size));have HVD:=hid (HV.later HBD.out (qa _));clear hWD hbd hbb XB HBB HY HBC R1;go_upto_region 18 with (go_at_call 13;refine (R2.out _ HVD.out).mono ?_;rintro e wE ⟨rfl,hb⟩;have HBE:=hid hb;clear hb;simp only [lineV,zeroTV])
     generalize hWF:World.alloc wE _=wF;have hbf:Below wD.heap.size wD wF:=hWF▸HBE.trans (((qb _ _).alloc (qa _) _).mono HBE.size);have XF:=hid (XD.later hbf);have LF:=hid (LD.later hbf);have HYF:=hid (rep_at HYD.out hbf);have HBF:=hid (HBD.trans (hbf.mono HBD.size));have HVF:=hid (HV.later HBF.out (qa _));clear hWF hbf HBE XD LD HBD R2 HYD;go_upto_region 19 with (go_at_call 13;refine (R3.out _ HVF.out).mono ?_;rintro e wG ⟨z,rfl,hz,hb⟩;have HZ:=hid hz;have HBG:=hid hb;clear hb hz;simp only [lineV])
     generalize hWH:World.alloc wG _=wH;have hbh':Below wG.heap.size wG wH:=hWH▸(qb _ _).alloc (qa _) _;have hbh:Below wF.heap.size wF wH:=HBG.trans (hbh'.mono HBG.size);have MH:=hid (show Boxd wH wG.heap.size #[.int .i64 1,.string ⟨#[]⟩,.int .i64 z.kind,.string z.text,.int .i64 z.n,.slice z.sa z.sl z.sc,.slice z.aa z.al z.ac,.slice z.ka z.kl z.kc,.slice none 0 0] from hWH▸Boxd.new wG _ 40);have XH:=hid (XF.later hbh);have LH:=hid (LF.later hbh);have HYH:=hid (rep_at HYF.out hbh);have HZH:=hid (rep_at HZ.out hbh');have HBH:=hid (HBF.trans (hbh.mono HBF.size));have HS:=hid (same_at HMc.out HYH.out (rep_at HR.out HBH.out));clear hWH hbh hbh' XF LF HBF HBG HZ;obtain ⟨c0,c1,c2,c3,c4,c5⟩:=XH.rt x rfl;obtain ⟨d0,d1,d2,d3,d4,d5,d6,d7,d8⟩:=LH.r9 (.int .i64 2) (.string (bytes [110,111,117,110])) (.int .i64 y.kind) (.string y.text) (.int .i64 y.n) (.slice y.sa y.sl y.sc) (.slice y.aa y.al y.ac) (.slice y.ka y.kl y.kc) (.slice none 0 0) rfl;have tq:((bytes [110,111,117,110]).toList==[110,111,117,110])=true:=by rw [text_beq];rfl
     obtain ⟨m0,m1,m2,m3,m4,m5,m6,m7,m8⟩:=MH.r9 (.int .i64 1) (.string ⟨#[]⟩) (.int .i64 z.kind) (.string z.text) (.int .i64 z.n) (.slice z.sa z.sl z.sc) (.slice z.aa z.al z.ac) (.slice z.ka z.kl z.kc) (.slice none 0 0) rfl;go_wp2_with (first
      |(go_at_call 11;refine HS.mono ?_;rintro e wI ⟨rfl,hb⟩;have HBI:=hid (HBH.trans (hb.mono HBH.size));have HS2:=hid (same_at HMc.out (rep_at HZH.out hb) (rep_at HR.out HBI.out));have XI:=hid (XH.later hb);have MI:=hid (MH.later hb);clear hb HS c0 c1 c2 c3 c4 c5 d0 d1 d2 d3 d4 d5 d6 d7 d8 m0 m1 m2 m3 m4 m5 m6 m7 m8;obtain ⟨c0,c1,c2,c3,c4,c5⟩:=XI.rt x rfl;obtain ⟨m0,m1,m2,m3,m4,m5,m6,m7,m8⟩:=MI.r9 (.int .i64 1) (.string ⟨#[]⟩) (.int .i64 z.kind) (.string z.text) (.int .i64 z.n) (.slice z.sa z.sl z.sc) (.slice z.aa z.al z.ac) (.slice z.ka z.kl z.kc) (.slice none 0 0) rfl)
      |(go_at_call 11;refine HS2.mono ?_;rintro e wJ ⟨rfl,hb⟩;have HBJ:=hid (HBI.trans (hb.mono HBI.size));clear hb))
     go_ret;exact ⟨rfl,HBJ.out⟩
    ·have s4:(4000:Int)<((bytes (Pp.rn (Pp.text t))).size:Int):=by rw [<-bl_len,bl_bytes];omega
     clear hl h4;obtain ⟨c0,c1,c2,c3,c4,c5⟩:=XA.rt x rfl;go_wp2_with (go_at_call 12;refine HP.mono ?_;rintro e wB ⟨rfl,hb⟩;have HBB:=hid (HBA.trans (hb.mono HBA.size));clear hb c0 c1 c2 c3 c4 c5)
     go_ret;exact ⟨rfl,HBB.out⟩
   ·have HP:=hid (pnoun_long HR.out HG.out HT.out HBA.out HMc.out hl)
    clear hl;obtain ⟨c0,c1,c2,c3,c4,c5⟩:=XA.rt x rfl;go_wp2_with (go_at_call 12;refine HP.mono ?_;rintro e wB ⟨rfl,hb⟩;have HBB:=hid (HBA.trans (hb.mono HBA.size));clear hb c0 c1 c2 c3 c4 c5)
    go_ret;exact ⟨rfl,HBB.out⟩
  ·have hm:=may_at HR.out HB2.out 1
   have f1:(T.may t 1 !=0)=true:=by simp [h1]
   have HM:=hid hm;clear hm h1;go_wp2_with (go_at_call 7;refine HM.mono ?_;rintro e wA ⟨rfl,hb⟩;have HBA:=hid (HB2.trans (hb.mono HB2.size));clear hb c0 c1 c2 c3 c4 c5)
   go_ret;exact ⟨rfl,HBA.out⟩
end Pz
end Go.Proofs.YtimcmghhbdfjfaaGreatDoor
