/- Layer 15's law. -/
import Derived.Test.YtimcmghhbdfjfaaGreatDoorQRdA
set_option linter.unusedVariables false
set_option linter.unusedSimpArgs false
set_option maxRecDepth 100000
set_option maxHeartbeats 4000000
namespace Go.Proofs.YtimcmghhbdfjfaaGreatDoor
open Go.RowKit
namespace Pz
theorem printed_calls {t:T} {x:TV} {w:World} (hr:Rep w w.heap.size t x) (hg:Pp.rng t=true) (hv:Vars w) (hT:Tabs w.heap.size w):Calls Tryz.prog 3 #[x.val] w fun e w'=>e=.returned (.bool true)/\Below w.heap.size w w':=by
 have X0:=hid (Boxd.new w x.cells 28);have HB0:=hid ((qb w.heap.size w).alloc (qa _) (.cells x.cells 28));generalize hw0:w.alloc (.cells x.cells 28)=w0 at X0 HB0;have HW0:=hid hw0;have HR:=hid hr;have HG:=hid hg;have HV:=hid hv;have HT:=hid hT;have HV0:=hid (hv.later HB0.out (qa _));clear hw0 hr hg hv hT;unfold TV.cells at HW0;unfold TV.val TV.cells;go_enter Tryz.func3,Tryz.ntmps3
 go_upto_region 1 with fail
 rw [HW0.out];go_upto_region 3 with (go_at_call 6;refine (begun_calls _ HV0.out).mono ?_;rintro e w1 ⟨rfl,hb⟩;have HB1:=hid (HB0.trans (hb.mono HB0.size));have X1:=hid (X0.later hb);clear hb)
 obtain ⟨c0,c1,c2,c3,c4,c5⟩:=X1.rt x rfl;by_cases h3:T.may t 3=0
 ·have hm:=may_at HR.out HB1.out 3
  rw [h3] at hm;have HM:=hid hm;have HM3:=hid h3;clear hm h3;go_upto_region 4 with (go_at_call 7;refine HM.mono ?_;rintro e wA ⟨rfl,hb⟩;have HBA:=hid (HB1.trans (hb.mono HB1.size));have XA:=hid (X1.later hb);clear hb c0 c1 c2 c3 c4 c5)
  by_cases hl:(Pp.rn (Pp.text t)).length<=1048576
  ·have HP:=hid (pverb_ok HR.out HG.out HT.out HBA.out HM3.out hl)
   have hrd:=read_is HM3.out (by decide) HG.out (k:=0) (high_is HM3.out) hl;have R1:=hid (fun W (h:Vars W)=>vread_ok (S:=bytes (Pp.rn (Pp.text t))) h (by rw [bl_bytes];exact hrd.1));have R2:=hid (fun W (h:Vars W)=>nread_bad (S:=bytes (Pp.rn (Pp.text t))) h (by rw [bl_bytes];exact hrd.2 1 (by decide)));clear hrd hl;generalize Pp.rn (Pp.text t)=out at HP R1 R2;obtain ⟨c0,c1,c2,c3,c4,c5⟩:=XA.rt x rfl;go_upto_region 7 with (go_at_call 8;refine HP.mono ?_;rintro e wB ⟨rfl,hb⟩;have HBB:=hid (HBA.trans (hb.mono HBA.size));have XB:=hid (XA.later hb);clear hb c0 c1 c2 c3 c4 c5)
   have HVB:=hid (HV.later HBB.out (qa _));go_upto_region 8 with (go_at_call 9;refine (R1.out _ HVB.out).mono ?_;rintro e wC ⟨y,rfl,hy,hb⟩;have HY:=hid hy;have HBC:=hid hb;clear hy hb;simp only [TV.val,TV.cells])
   generalize hWD:World.alloc wC _=wD;have hbd:Below wC.heap.size wC wD:=hWD▸(qb _ _).alloc (qa _) _;have hbb:Below wB.heap.size wB wD:=HBC.trans (hbd.mono HBC.size);have YD:=hid (show Boxd wD wC.heap.size y.cells from hWD▸Boxd.new wC _ 28);have HYD:=hid (rep_at HY.out hbd);have XD:=hid (XB.later hbb);have HBD:=hid (HBB.trans (hbb.mono HBB.size));have HVD:=hid (HV.later HBD.out (qa _));clear hWD hbd hbb;go_upto_region 9 with (go_at_call 10;refine (R2.out _ HVD.out).mono ?_;rintro e wE ⟨rfl,hb⟩;have HBE:=hid hb;clear hb;simp only [zeroTerm])
   generalize hWF:World.alloc wE _=wF;have hbf:Below wD.heap.size wD wF:=hWF▸HBE.trans (((qb _ _).alloc (qa _) _).mono HBE.size);have XF:=hid (XD.later hbf);have YF:=hid (YD.later hbf);have HBF:=hid (HBD.trans (hbf.mono HBD.size));have HS:=hid (same_at HM3.out (rep_at HR.out HBF.out) (rep_at HYD.out hbf));clear hWF hbf;obtain ⟨c0,c1,c2,c3,c4,c5⟩:=XF.rt x rfl;obtain ⟨d0,d1,d2,d3,d4,d5⟩:=YF.rt y rfl;go_wp2_with (go_at_call 11;refine HS.mono ?_;rintro e wG ⟨rfl,hb⟩;have HBG:=hid (HBF.trans (hb.mono HBF.size));clear hb)
   go_ret;exact ⟨rfl,HBG.out⟩
  ·have HP:=hid (pverb_long HR.out HG.out HT.out HBA.out HM3.out hl)
   clear hl;obtain ⟨c0,c1,c2,c3,c4,c5⟩:=XA.rt x rfl;go_wp2_with (go_at_call 8;refine HP.mono ?_;rintro e wB ⟨rfl,hb⟩;have HBB:=hid (HBA.trans (hb.mono HBA.size));clear hb c0 c1 c2 c3 c4 c5)
   go_ret;exact ⟨rfl,HBB.out⟩
 ·have hm:=may_at HR.out HB1.out 3
  have f3:(T.may t 3==0)=false:=by simp [h3]
  have HM:=hid hm;clear hm h3;go_upto_region 10 with (go_at_call 7;refine HM.mono ?_;rintro e w2 ⟨rfl,hb⟩;have HB2:=hid (HB1.trans (hb.mono HB1.size));have X2:=hid (X1.later hb);clear hb c0 c1 c2 c3 c4 c5)
  clear f3;obtain ⟨c0,c1,c2,c3,c4,c5⟩:=X2.rt x rfl;by_cases h1:T.may t 1=0
  ·have hm:=may_at HR.out HB2.out 1
   rw [h1] at hm;have HM:=hid hm;have HM1:=hid h1;clear hm h1;go_upto_region 12 with (go_at_call 7;refine HM.mono ?_;rintro e wA ⟨rfl,hb⟩;have HBA:=hid (HB2.trans (hb.mono HB2.size));have XA:=hid (X2.later hb);clear hb c0 c1 c2 c3 c4 c5)
   by_cases hl:(Pp.rn (Pp.text t)).length<=1048576
   ·have HP:=hid (pnoun_ok HR.out HG.out HT.out HBA.out HM1.out hl)
    have hrd:=read_is HM1.out (by decide) HG.out (k:=0) (high_is HM1.out) hl;have R1:=hid (fun W (h:Vars W)=>nread_ok (S:=bytes (Pp.rn (Pp.text t))) h (by rw [bl_bytes];exact hrd.1));have R2:=hid (fun W (h:Vars W)=>vread_bad (S:=bytes (Pp.rn (Pp.text t))) h (by rw [bl_bytes];exact hrd.2 3 (by decide)));clear hrd hl;generalize Pp.rn (Pp.text t)=out at HP R1 R2;obtain ⟨c0,c1,c2,c3,c4,c5⟩:=XA.rt x rfl;go_upto_region 15 with (go_at_call 12;refine HP.mono ?_;rintro e wB ⟨rfl,hb⟩;have HBB:=hid (HBA.trans (hb.mono HBA.size));have XB:=hid (XA.later hb);clear hb c0 c1 c2 c3 c4 c5)
    have HVB:=hid (HV.later HBB.out (qa _));go_upto_region 16 with (go_at_call 10;refine (R1.out _ HVB.out).mono ?_;rintro e wC ⟨y,rfl,hy,hb⟩;have HY:=hid hy;have HBC:=hid hb;clear hy hb;simp only [TV.val,TV.cells])
    generalize hWD:World.alloc wC _=wD;have hbd:Below wC.heap.size wC wD:=hWD▸(qb _ _).alloc (qa _) _;have hbb:Below wB.heap.size wB wD:=HBC.trans (hbd.mono HBC.size);have YD:=hid (show Boxd wD wC.heap.size y.cells from hWD▸Boxd.new wC _ 28);have HYD:=hid (rep_at HY.out hbd);have XD:=hid (XB.later hbb);have HBD:=hid (HBB.trans (hbb.mono HBB.size));have HVD:=hid (HV.later HBD.out (qa _));clear hWD hbd hbb;go_upto_region 17 with (go_at_call 9;refine (R2.out _ HVD.out).mono ?_;rintro e wE ⟨rfl,hb⟩;have HBE:=hid hb;clear hb;simp only [zeroTerm])
    generalize hWF:World.alloc wE _=wF;have hbf:Below wD.heap.size wD wF:=hWF▸HBE.trans (((qb _ _).alloc (qa _) _).mono HBE.size);have XF:=hid (XD.later hbf);have YF:=hid (YD.later hbf);have HBF:=hid (HBD.trans (hbf.mono HBD.size));have HS:=hid (same_at HM1.out (rep_at HR.out HBF.out) (rep_at HYD.out hbf));clear hWF hbf;obtain ⟨c0,c1,c2,c3,c4,c5⟩:=XF.rt x rfl;obtain ⟨d0,d1,d2,d3,d4,d5⟩:=YF.rt y rfl;go_wp2_with (go_at_call 11;refine HS.mono ?_;rintro e wG ⟨rfl,hb⟩;have HBG:=hid (HBF.trans (hb.mono HBF.size));clear hb)
    go_ret;exact ⟨rfl,HBG.out⟩
   ·have HP:=hid (pnoun_long HR.out HG.out HT.out HBA.out HM1.out hl)
    clear hl;obtain ⟨c0,c1,c2,c3,c4,c5⟩:=XA.rt x rfl;go_wp2_with (go_at_call 12;refine HP.mono ?_;rintro e wB ⟨rfl,hb⟩;have HBB:=hid (HBA.trans (hb.mono HBA.size));clear hb c0 c1 c2 c3 c4 c5)
    go_ret;exact ⟨rfl,HBB.out⟩
  ·have hm:=may_at HR.out HB2.out 1
   have f1:(T.may t 1 !=0)=true:=by simp [h1]
   have HM:=hid hm;clear hm h1;go_wp2_with (go_at_call 7;refine HM.mono ?_;rintro e wA ⟨rfl,hb⟩;have HBA:=hid (HB2.trans (hb.mono HB2.size));clear hb c0 c1 c2 c3 c4 c5)
   go_ret;exact ⟨rfl,HBA.out⟩
end Pz
end Go.Proofs.YtimcmghhbdfjfaaGreatDoor
