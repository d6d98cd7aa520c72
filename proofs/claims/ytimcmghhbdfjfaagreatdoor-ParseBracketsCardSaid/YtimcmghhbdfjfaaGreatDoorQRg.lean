/- Layer 15's law. -/
import Derived.Test.YtimcmghhbdfjfaaGreatDoorQRdA
set_option linter.unusedVariables false
set_option linter.unusedSimpArgs false
set_option maxRecDepth 100000
set_option maxHeartbeats 2000000
namespace Go.Proofs.YtimcmghhbdfjfaaGreatDoor
open Go.RowKit
namespace Pz
theorem may_other {t:T} (h:T.may t 3=0):T.may t 1≠0:=fun k=>by
 have a:=(Pp.may_parts h).2.2;rw [(Pp.may_parts k).2.2] at a;exact absurd a (by decide)
theorem size_is {t:T} {c:Int} (h:T.may t c=0):t.sizeD=t.height:=by
 rw [T.sizeD,if_pos (Pp.may_parts h).1]
theorem brn_cons (k:Nat) (l:List Pp.Pc):Pp.rn (Pp.brN (k+1) l)=40::Pp.rn (Pp.brN k l)++[41]:=by
 simp [Pp.brN,Pp.rn,Pp.rn_append,Pp.Pc.bytes]
theorem brn_succ (k:Nat) (l:List Pp.Pc):bytes (Pp.rn (Pp.brN (k+1) l))=(⟨#[40]⟩:ByteArray)++bytes (Pp.rn (Pp.brN k l))++(⟨#[41]⟩:ByteArray):=by
 rw [brn_cons];apply ByteArray.ext;simp [bytes]
theorem brn_len (k:Nat) (l:List Pp.Pc):(Pp.rn (Pp.brN k l)).length=(Pp.rn l).length+2*k:=by
 induction k with
 |zero=>rfl
 |succ k ih=>rw [brn_cons];simp only [List.length_append,List.length_cons,List.length_nil,ih];omega
theorem many_is {t:T} {c:Int} (n:Int) (hn:0<=n/\n<=255) (h:T.may t c=0):∃ K:Nat,max (0:Int) (min (n % 201) (510-2*(t.height:Int)))=(K:Int)/\K+2*t.height<=512/\K<=200:=by
 have hh:=(Pp.may_parts h).1.2;exact ⟨(max (0:Int) (min (n % 201) (510-2*(t.height:Int)))).toNat,by omega,by omega,by omega⟩
theorem verb_own {t:T} {S:ByteArray} {W:World} (hv:Vars W) (h:read (bl S) 3=.ok t):Calls Tryz.prog 9 #[.string S] W fun e w'=>∃ y G,e=.returned (.tuple #[TV.val y,.int .i64 0,.int .i64 0])/\Own w' t y G/\From [] W.heap.size w'.heap.size G/\Below W.heap.size W w':=by
 have hc:=verbF_calls S W hv;rw [h] at hc;exact hc
theorem six_other {w:World} {b c:Nat} {cs:Array Value} (h:Boxd w b cs) (hc:c≠b) (v0 v1 v2 v3 v4 v5:Value):Boxd ((((((w.setCell ⟨c,0,none⟩ v0).setCell ⟨c,1,none⟩ v1).setCell ⟨c,2,none⟩ v2).setCell ⟨c,3,none⟩ v3).setCell ⟨c,4,none⟩ v4).setCell ⟨c,5,none⟩ v5) b cs:=
 (((((h.other (q:=⟨c,0,none⟩) v0 hc).other (q:=⟨c,1,none⟩) v1 hc).other (q:=⟨c,2,none⟩) v2 hc).other (q:=⟨c,3,none⟩) v3 hc).other (q:=⟨c,4,none⟩) v4 hc).other (q:=⟨c,5,none⟩) v5 hc
theorem six_all {w wF wG:World} {b:Nat} {t:T} {x y:TV} {G:List Nat} (hw:wG=(((((wF.setCell ⟨b,0,none⟩ (.int .i64 y.kind)).setCell ⟨b,1,none⟩ (.string y.text)).setCell ⟨b,2,none⟩ (.int .i64 y.n)).setCell ⟨b,3,none⟩ (.slice y.sa y.sl y.sc)).setCell ⟨b,4,none⟩ (.slice y.aa y.al y.ac)).setCell ⟨b,5,none⟩ (.slice y.ka y.kl y.kc))
 (Y:Boxd wF b zeroT) (X:Boxd wF w.heap.size x.cells) (hlt:w.heap.size<b) (hB:Below w.heap.size w wF) (hO:Own wF t y G) (hb:b ∉ G):Boxd wG b y.cells/\Boxd wG w.heap.size x.cells/\Below w.heap.size w wG/\Own wG t y G:=by
 have hY:=Boxd.six Y (.int .i64 y.kind) (.string y.text) (.int .i64 y.n) (.slice y.sa y.sl y.sc) (.slice y.aa y.al y.ac) (.slice y.ka y.kl y.kc);have hX:=six_other X (Nat.ne_of_gt hlt) (.int .i64 y.kind) (.string y.text) (.int .i64 y.n) (.slice y.sa y.sl y.sc) (.slice y.aa y.al y.ac) (.slice y.ka y.kl y.kc);have h1:=set_sixB hB (Nat.le_of_lt hlt) (.int .i64 y.kind) (.string y.text) (.int .i64 y.n) (.slice y.sa y.sl y.sc) (.slice y.aa y.al y.ac) (.slice y.ka y.kl y.kc);have h2:=own_six hO hb (.int .i64 y.kind) (.string y.text) (.int .i64 y.n) (.slice y.sa y.sl y.sc) (.slice y.aa y.al y.ac) (.slice y.ka y.kl y.kc);rw [<-hw] at hY hX h1 h2;exact ⟨hY,hX,h1,h2⟩
theorem brackets_calls {t:T} {x:TV} {w:World} (n:Int) (hn:0<=n/\n<=255) (hr:Rep w w.heap.size t x) (hg:Pp.rng t=true) (hv:Vars w) (hT:Tabs w.heap.size w):Calls Tryz.prog 5 #[x.val,.int .u8 n] w fun e w'=>e=.returned (.bool true)/\Below w.heap.size w w':=by
 have X0:=hid (Boxd.new w x.cells 28);have HB0:=hid ((qb w.heap.size w).alloc (qa _) (.cells x.cells 28));generalize hw0:w.alloc (.cells x.cells 28)=w0 at X0 HB0;have HW0:=hid hw0;have HR:=hid hr;have HG:=hid hg;have HV:=hid hv;have HT:=hid hT;have HV0:=hid (hv.later HB0.out (qa _));clear hw0 hr hg hv hT;unfold TV.cells at HW0;unfold TV.val TV.cells;go_enter Tryz.func5,Tryz.ntmps5
 go_upto_region 1 with fail
 rw [HW0.out];go_upto_region 3 with (go_at_call 6;refine (begun_calls _ HV0.out).mono ?_;rintro e w1 ⟨rfl,hb⟩;have HB1:=hid (HB0.trans (hb.mono HB0.size));have X1:=hid (X0.later hb);clear hb X0 HB0)
 obtain ⟨c0,c1,c2,c3,c4,c5⟩:=X1.rt x rfl;by_cases h3:T.may t 3=0
 ·have hm:=may_at HR.out HB1.out 3
  rw [h3] at hm;have HM:=hid hm;have HMc:=hid h3;clear hm h3;go_upto_region 6 with (go_at_call 7;refine HM.mono ?_;rintro e wA ⟨rfl,hb⟩;have HBA:=hid (HB1.trans (hb.mono HB1.size));have XA:=hid (X1.later hb);clear hb c0 c1 c2 c3 c4 c5 HB1 X1 HM)
  have HN:=hid (pnoun_no HR.out HG.out HT.out HBA.out (may_other HMc.out));obtain ⟨c0,c1,c2,c3,c4,c5⟩:=XA.rt x rfl;go_upto_region 8 with (go_at_call 12;refine HN.mono ?_;rintro e wq ⟨rfl,hb⟩;have HBq:=hid (HBA.trans (hb.mono HBA.size));have Xq:=hid (XA.later hb);clear hb c0 c1 c2 c3 c4 c5 HBA XA HN)
  by_cases hl:(Pp.rn (Pp.text t)).length<=1048576
  ·have HP:=hid (pverb_ok HR.out HG.out HT.out HBq.out HMc.out hl)
   by_cases h5:(Pp.rn (Pp.text t)).length<=100000
   ·have s5:¬(100000:Int)<((bytes (Pp.rn (Pp.text t))).size:Int):=by rw [<-bl_len,bl_bytes];omega
    have H5:=hid h5;clear hl h5;obtain ⟨c0,c1,c2,c3,c4,c5⟩:=Xq.rt x rfl;go_upto_region 11 with (go_at_call 8;refine HP.mono ?_;rintro e wB ⟨rfl,hb⟩;have HBB:=hid (HBq.trans (hb.mono HBq.size));have XB:=hid (Xq.later hb);clear hb c0 c1 c2 c3 c4 c5 HBq Xq HP)
    clear s5;have hsz:=size_calls t x wB.heap.size wB (rep_at HR.out HBB.out) (qa _);rw [size_is HMc.out] at hsz;have HSz:=hid hsz;clear hsz;obtain ⟨c0,c1,c2,c3,c4,c5⟩:=XB.rt x rfl;go_upto_region 12 with (go_at_call 14;refine HSz.mono ?_;rintro e wC ⟨rfl,hb⟩;have HBC:=hid (HBB.trans (hb.mono HBB.size));have XC:=hid (XB.later hb);clear hb c0 c1 c2 c3 c4 c5 HBB XB HSz)
    obtain ⟨K,hK,hK1,hK2⟩:=many_is n hn HMc.out;have HK1:=hid hK1;have HK2:=hid hK2;have HVC:=hid (HV.later HBC.out (qa _));go_wp2_with fail
    clear hK1 hK2
    go_loopw [6,11] (fun v i wr=>∃ k:Nat,k<=K/\i=.int .i64 k/\v=.string (bytes (Pp.rn (Pp.brN k (Pp.text t))))/\wr=wC) (fun _ i _=>K-(intOf i).toNat)
    case atStart=>exact ⟨0,Nat.zero_le _,rfl,rfl,rfl⟩
    case round=>
     obtain ⟨k,hk,rfl,rfl,hwr⟩:=hrel;subst hwr;have k0:(0:Int)<=(k:Int):=qj _;by_cases hlt:k<K
     ·have k1:(k:Int)<(K:Int):=Int.ofNat_lt.2 hlt
      have hw:wrap64 ((k:Int)+1)=((k+1:Nat):Int):=wrap_succ (by have:=HK2.out;omega);have hlen:=brn_len k (Pp.text t);have lz:(bytes (Pp.rn (Pp.brN k (Pp.text t)))).size<=100500:=by rw [<-bl_len,bl_bytes,hlen];have:=HK2.out;have:=H5.out;omega
      have l1:¬9223372036854775807<1+(bytes (Pp.rn (Pp.brN k (Pp.text t)))).size:=by omega
      have l2:¬9223372036854775807<1+(bytes (Pp.rn (Pp.brN k (Pp.text t)))).size+1:=by omega
      clear lz;clear hlen;go_wp2_with fail
      go_roundw
      case rel=>exact ⟨k+1,hlt,by go_num,by rw [brn_succ],trivial⟩
      case measure=>exact sp_meas (by first|exact Int.lt_succ _|(rw [hw];exact Int.lt_succ _)) k0 k1
     ·obtain rfl:k=K:=by omega
      have k1:¬(k:Int)<(k:Int):=Int.lt_irrefl _;clear hlt hk;have hlen:=brn_len k (Pp.text t);have hrd:=read_is HMc.out (by decide) HG.out HK1.out (by have:=HK2.out;have:=H5.out;omega);clear hlen;have R1:=hid (fun W (h:Vars W)=>nread_bad (S:=bytes (Pp.rn (Pp.brN k (Pp.text t)))) h (by rw [bl_bytes];exact hrd.2 1 (by decide)));have R2:=hid (fun W (h:Vars W)=>verb_own (S:=bytes (Pp.rn (Pp.brN k (Pp.text t)))) h (by rw [bl_bytes];exact hrd.1));clear hrd;generalize bytes (Pp.rn (Pp.brN k (Pp.text t)))=S at R1 R2 ⊢;go_upto_region 18 with (go_at_call 10;refine (R1.out _ HVC.out).mono ?_;rintro e wD ⟨rfl,hb⟩;have HBD:=hid hb;clear hb;simp only [zeroTerm])
      generalize hWE:World.alloc wD _=wE;have hbe':Below wD.heap.size wD wE:=hWE▸(qb _ _).alloc (qa _) _;have hbe:Below wr.heap.size wr wE:=HBD.trans (hbe'.mono HBD.size);have YE:=hid (show Boxd wE wD.heap.size zeroT from hWE▸Boxd.new wD _ 28);have XE:=hid (XC.later hbe);have HBE:=hid (HBC.trans (hbe.mono HBC.size));have HVE:=hid (HV.later HBE.out (qa _));have HLt:=hid (show w.heap.size<wD.heap.size from Nat.lt_of_lt_of_le XC.lt HBD.size);clear hWE hbe hbe';go_upto_region 20 with (go_at_call 9;refine (R2.out _ HVE.out).mono ?_;rintro e wF ⟨y,G,rfl,hO,hG,hb⟩;have HO:=hid hO;have HGf:=hid hG;have HBF:=hid hb;have YF:=hid (YE.later hb);have y0:=YF.lt;have y1:=YF.fz;obtain ⟨z0,z1,z2,z3,z4,z5⟩:=YF.rz rfl;clear hO hG hb;simp only [TV.val,TV.cells])
      generalize hWG:(((((World.setCell _ _ _).setCell _ _).setCell _ _).setCell _ _).setCell _ _).setCell _ _=wG;obtain ⟨hy1,hy2,hy3,hy4⟩:=six_all hWG.symm YF.out (XE.later HBF.out) HLt.out (HBE.trans (HBF.mono HBE.size)) HO.out (HGf.not_mem (by simp) YE.lt);have YG:=hid hy1;have XG:=hid hy2;have HBG:=hid hy3;have HOG:=hid hy4;have HS:=hid (same_at HMc.out (rep_at HR.out HBG.out) (Own.rep t y G HOG.out (own_lt t y G HOG.out)));clear hWG hy1 hy2 hy3 hy4;clear z0 z1 z2 z3 z4 z5 y0 y1;obtain ⟨c0,c1,c2,c3,c4,c5⟩:=XG.rt x rfl;obtain ⟨d0,d1,d2,d3,d4,d5⟩:=YG.rt y rfl;go_wp2_with (go_at_call 11;refine HS.mono ?_;rintro e wH ⟨rfl,hb⟩;have HBH:=hid (HBG.trans (hb.mono HBG.size));clear hb)
      go_ret;exact ⟨rfl,HBH.out⟩
   ·have s5:(100000:Int)<((bytes (Pp.rn (Pp.text t))).size:Int):=by rw [<-bl_len,bl_bytes];omega
    clear hl h5;obtain ⟨c0,c1,c2,c3,c4,c5⟩:=Xq.rt x rfl;go_wp2_with (go_at_call 8;refine HP.mono ?_;rintro e wB ⟨rfl,hb⟩;have HBB:=hid (HBq.trans (hb.mono HBq.size));clear hb c0 c1 c2 c3 c4 c5)
    go_ret;exact ⟨rfl,HBB.out⟩
  ·have HP:=hid (pverb_long HR.out HG.out HT.out HBq.out HMc.out hl)
   clear hl;obtain ⟨c0,c1,c2,c3,c4,c5⟩:=Xq.rt x rfl;go_wp2_with (go_at_call 8;refine HP.mono ?_;rintro e wB ⟨rfl,hb⟩;have HBB:=hid (HBq.trans (hb.mono HBq.size));clear hb c0 c1 c2 c3 c4 c5)
   go_ret;exact ⟨rfl,HBB.out⟩
 ·have hm:=may_at HR.out HB1.out 3
  have f3:(T.may t 3==0)=false:=by simp [h3]
  have HM:=hid hm;clear hm h3;go_upto_region 4 with (go_at_call 7;refine HM.mono ?_;rintro e w2 ⟨rfl,hb⟩;have HB2:=hid (HB1.trans (hb.mono HB1.size));have X2:=hid (X1.later hb);clear hb c0 c1 c2 c3 c4 c5 HB1 X1 HM)
  try rw [f3]
  clear f3;obtain ⟨c0,c1,c2,c3,c4,c5⟩:=X2.rt x rfl;by_cases h1:T.may t 1=0
  ·have hm:=may_at HR.out HB2.out 1
   rw [h1] at hm;have HM:=hid hm;have HMc:=hid h1;clear hm h1;go_upto_region 6 with (go_at_call 7;refine HM.mono ?_;rintro e wA ⟨rfl,hb⟩;have HBA:=hid (HB2.trans (hb.mono HB2.size));have XA:=hid (X2.later hb);clear hb c0 c1 c2 c3 c4 c5 HB2 X2 HM)
   by_cases hl:(Pp.rn (Pp.text t)).length<=1048576
   ·have HP:=hid (pnoun_ok HR.out HG.out HT.out HBA.out HMc.out hl)
    by_cases h5:(Pp.rn (Pp.text t)).length<=100000
    ·have s5:¬(100000:Int)<((bytes (Pp.rn (Pp.text t))).size:Int):=by rw [<-bl_len,bl_bytes];omega
     have H5:=hid h5;clear hl h5;obtain ⟨c0,c1,c2,c3,c4,c5⟩:=XA.rt x rfl;go_upto_region 11 with (go_at_call 12;refine HP.mono ?_;rintro e wB ⟨rfl,hb⟩;have HBB:=hid (HBA.trans (hb.mono HBA.size));have XB:=hid (XA.later hb);clear hb c0 c1 c2 c3 c4 c5 HBA XA HP)
     clear s5;have hsz:=size_calls t x wB.heap.size wB (rep_at HR.out HBB.out) (qa _);rw [size_is HMc.out] at hsz;have HSz:=hid hsz;clear hsz;obtain ⟨c0,c1,c2,c3,c4,c5⟩:=XB.rt x rfl;go_upto_region 12 with (go_at_call 14;refine HSz.mono ?_;rintro e wC ⟨rfl,hb⟩;have HBC:=hid (HBB.trans (hb.mono HBB.size));have XC:=hid (XB.later hb);clear hb c0 c1 c2 c3 c4 c5 HBB XB HSz)
     obtain ⟨K,hK,hK1,hK2⟩:=many_is n hn HMc.out;have HK1:=hid hK1;have HK2:=hid hK2;have HVC:=hid (HV.later HBC.out (qa _));go_wp2_with fail
     clear hK1 hK2
     go_loopw [6,11] (fun v i wr=>∃ k:Nat,k<=K/\i=.int .i64 k/\v=.string (bytes (Pp.rn (Pp.brN k (Pp.text t))))/\wr=wC) (fun _ i _=>K-(intOf i).toNat)
     case atStart=>exact ⟨0,Nat.zero_le _,rfl,rfl,rfl⟩
     case round=>
      obtain ⟨k,hk,rfl,rfl,hwr⟩:=hrel;subst hwr;have k0:(0:Int)<=(k:Int):=qj _;by_cases hlt:k<K
      ·have k1:(k:Int)<(K:Int):=Int.ofNat_lt.2 hlt
       have hw:wrap64 ((k:Int)+1)=((k+1:Nat):Int):=wrap_succ (by have:=HK2.out;omega);have hlen:=brn_len k (Pp.text t);have lz:(bytes (Pp.rn (Pp.brN k (Pp.text t)))).size<=100500:=by rw [<-bl_len,bl_bytes,hlen];have:=HK2.out;have:=H5.out;omega
       have l1:¬9223372036854775807<1+(bytes (Pp.rn (Pp.brN k (Pp.text t)))).size:=by omega
       have l2:¬9223372036854775807<1+(bytes (Pp.rn (Pp.brN k (Pp.text t)))).size+1:=by omega
       clear lz;clear hlen;go_wp2_with fail
       go_roundw
       case rel=>exact ⟨k+1,hlt,by go_num,by rw [brn_succ],trivial⟩
       case measure=>exact sp_meas (by first|exact Int.lt_succ _|(rw [hw];exact Int.lt_succ _)) k0 k1
      ·obtain rfl:k=K:=by omega
       have k1:¬(k:Int)<(k:Int):=Int.lt_irrefl _;clear hlt hk;have hlen:=brn_len k (Pp.text t);have hrd:=read_is HMc.out (by decide) HG.out HK1.out (by have:=HK2.out;have:=H5.out;omega);clear hlen;have R1:=hid (fun W (h:Vars W)=>nread_ok (S:=bytes (Pp.rn (Pp.brN k (Pp.text t)))) h (by rw [bl_bytes];exact hrd.1));clear hrd;generalize bytes (Pp.rn (Pp.brN k (Pp.text t)))=S at R1 ⊢;go_upto_region 18 with (go_at_call 10;refine (R1.out _ HVC.out).mono ?_;rintro e wD ⟨y,rfl,hy,hb⟩;have HY:=hid hy;have HBD:=hid hb;clear hy hb;simp only [TV.val,TV.cells])
       generalize hWG:World.alloc wD _=wG;have hbe':Below wD.heap.size wD wG:=hWG▸(qb _ _).alloc (qa _) _;have hbe:Below wr.heap.size wr wG:=HBD.trans (hbe'.mono HBD.size);have YG:=hid (show Boxd wG wD.heap.size y.cells from hWG▸Boxd.new wD _ 28);have XG:=hid (XC.later hbe);have HBG:=hid (HBC.trans (hbe.mono HBC.size));have HS:=hid (same_at HMc.out (rep_at HR.out HBG.out) (rep_at HY.out hbe'));clear hWG hbe hbe';obtain ⟨c0,c1,c2,c3,c4,c5⟩:=XG.rt x rfl;obtain ⟨d0,d1,d2,d3,d4,d5⟩:=YG.rt y rfl;go_wp2_with (go_at_call 11;refine HS.mono ?_;rintro e wH ⟨rfl,hb⟩;have HBH:=hid (HBG.trans (hb.mono HBG.size));clear hb)
       go_ret;exact ⟨rfl,HBH.out⟩
    ·have s5:(100000:Int)<((bytes (Pp.rn (Pp.text t))).size:Int):=by rw [<-bl_len,bl_bytes];omega
     clear hl h5;obtain ⟨c0,c1,c2,c3,c4,c5⟩:=XA.rt x rfl;go_wp2_with (go_at_call 12;refine HP.mono ?_;rintro e wB ⟨rfl,hb⟩;have HBB:=hid (HBA.trans (hb.mono HBA.size));clear hb c0 c1 c2 c3 c4 c5)
     go_ret;exact ⟨rfl,HBB.out⟩
   ·have HP:=hid (pnoun_long HR.out HG.out HT.out HBA.out HMc.out hl)
    clear hl;obtain ⟨c0,c1,c2,c3,c4,c5⟩:=XA.rt x rfl;go_wp2_with (go_at_call 12;refine HP.mono ?_;rintro e wB ⟨rfl,hb⟩;have HBB:=hid (HBA.trans (hb.mono HBA.size));clear hb c0 c1 c2 c3 c4 c5)
    go_ret;exact ⟨rfl,HBB.out⟩
  ·have hm:=may_at HR.out HB2.out 1
   have f1:(T.may t 1 !=0)=true:=by simp [h1]
   have HM:=hid hm;clear hm h1;go_wp2_with (go_at_call 7;refine HM.mono ?_;rintro e wA ⟨rfl,hb⟩;have HBA:=hid (HB2.trans (hb.mono HB2.size));clear hb c0 c1 c2 c3 c4 c5)
   go_ret;exact ⟨rfl,HBA.out⟩
end Pz
end Go.Proofs.YtimcmghhbdfjfaaGreatDoor
