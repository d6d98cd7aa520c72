/- Package parse. -/
import Derived.Test.YtimcmghhbdfjfaaGreatDoorQPwAN
set_option linter.unusedVariables false
set_option linter.unusedSimpArgs false
set_option maxRecDepth 100000
set_option maxHeartbeats 2000000
namespace Go.Proofs.YtimcmghhbdfjfaaGreatDoor
open Go.RowKit
namespace Pz
def trainR (l:List U) (K:Nat) (u:U):R T:=if u.cap then .bad 32 u.at_ else trainL l K u.t
theorem sl_ends {ty:TypeId} {Fs:List (List Nat)} {w wr:World} {tb:Nat} {t:T} {y:TV} (h:SL Fs w tb 0 t y wr):PF ty Fs.flatten w (.ok t) (.returned y.val) ((((((wr.setCell ⟨w.heap.size,0,none⟩ (.int .i64 y.kind)).setCell ⟨w.heap.size,1,none⟩ (.string y.text)).setCell ⟨w.heap.size,2,none⟩ (.int .i64 y.n)).setCell ⟨w.heap.size,3,none⟩ (.slice y.sa y.sl y.sc)).setCell ⟨w.heap.size,4,none⟩ (.slice y.aa y.al y.ac)).setCell ⟨w.heap.size,5,none⟩ (.slice y.ka y.kl y.kc)):=by
 obtain ⟨Gt,hN,_,_,hc⟩:=h.nd;have hN':=(((((hN.set (q:=⟨w.heap.size,0,none⟩) hc (.int .i64 y.kind)).set (q:=⟨w.heap.size,1,none⟩) hc (.string y.text)).set (q:=⟨w.heap.size,2,none⟩) hc (.int .i64 y.n)).set (q:=⟨w.heap.size,3,none⟩) hc (.slice y.sa y.sl y.sc)).set (q:=⟨w.heap.size,4,none⟩) hc (.slice y.aa y.al y.ac)).set (q:=⟨w.heap.size,5,none⟩) hc (.slice y.ka y.kl y.kc);exact ⟨y,Gt,rfl,hN'.own,hN'.from_,h.below.trans (below_six (qa _) _ _ _ _ _ _)⟩
theorem train_calls (v:Value) (l:List U) (xs:List UV) (Fs:List (List Nat)) (w:World) (h:Us w v l xs Fs) (hnd:Fs.flatten.Nodup) (hlen:l.length<=1048576) (K:Nat) (hK:l.length=K+1) (u:U) (hu:l[K]? =some u) (hold:∀ b∈Fs.flatten,b<w.heap.size):
 Calls Tryz.prog 106 #[v] w (PF 61 Fs.flatten w (trainR l K u)):=by
 obtain ⟨x,G,g,cap,hx,hG,hO,rfl,hc1,hc2,hg,hcells⟩:=us_cell h hu;have HH:=hid h;have HND:=hid (And.intro hnd hold);have hcap:x.cap=u.cap:=hO.cap;have HAt:=hid hO.at_;have k0:=hcells 0 (.int .i64 x.t.kind) rfl;have k1:=hcells 1 (.string x.t.text) rfl;have k2:=hcells 2 (.int .i64 x.t.n) rfl;have k3:=hcells 3 (.slice x.t.sa x.t.sl x.t.sc) rfl;have k4:=hcells 4 (.slice x.t.aa x.t.al x.t.ac) rfl;have k5:=hcells 5 (.slice x.t.ka x.t.kl x.t.kc) rfl;have k6:=hcells 6 (.slice x.ga x.gl x.gc) rfl;have k7:=hcells 7 (.bool x.cap) rfl;have k8:=hcells 8 (.int .i64 x.at_) rfl;have hw1:wrap64 (K:Int)=K:=wrap_nat (by omega);have hw2:wrap64 ((l.length:Int)-1)=K:=by rw [hK];unfold wrap64;omega
 have hw3:wrap64 ((l.length:Int)-2)=(K:Int)-1:=by rw [hK];unfold wrap64;omega
 have hlt:(K:Int)<(l.length:Int):=by omega
 have hlt':K<l.length:=by omega
 have hne1:¬g=w.heap.size:=by omega
 have hne2:¬w.heap.size=g:=by omega
 rw [Nat.add_zero] at k0;unfold trainR;cases hcp:u.cap with
 |true=>
  rw [hcp] at hcap;rw [if_pos rfl];rw [hcap] at k7;have HB:=hid hcap;clear hcap hcells h hc1 hc2 hnd hold hu hx hG hO;go_enter Tryz.func106,Tryz.ntmps106
  go_wp2_with (first
   |(go_at_call 27;refine (wrong_calls _ _).mono ?_;rintro e w9 ⟨rfl,rfl⟩))
  all_goals exact ⟨rfl,by rw [HAt.out],by go_grown⟩
 |false=>
  rw [hcp] at hcap;rw [if_neg (by simp)];rw [hcap] at k7;obtain ⟨R0,hR0⟩:∃ R0,trainL l K u.t=R0:=⟨_,rfl⟩;rw [hR0];have HR0:=hid hR0;obtain ⟨G1,G2,rfl,hO1⟩:=us_term h hu hx hG;have HS:=hid (show SL Fs w (w.heap.size+1+1) K u.t x.t (((w.alloc (.cells zeroT 28)).alloc (.cells #[.int .i64 x.t.kind,.string x.t.text,.int .i64 x.t.n,.slice x.t.sa x.t.sl x.t.sc,.slice x.t.aa x.t.al x.t.ac,.slice x.t.ka x.t.kl x.t.kc,.slice x.ga x.gl x.gc,.bool false,.int .i64 x.at_] 145)).alloc (.cells x.t.cells 28)) from
   ⟨(((qb _ _).alloc (qa _) _).alloc (by simp) _).alloc (by simp;omega) _,((Boxd.new w zeroT 28).alloc _).alloc _,by
     have:=Boxd.new ((w.alloc (.cells zeroT 28)).alloc (.cells #[.int .i64 x.t.kind,.string x.t.text,.int .i64 x.t.n,.slice x.t.sa x.t.sl x.t.sc,.slice x.t.aa x.t.al x.t.ac,.slice x.t.ka x.t.kl x.t.kc,.slice x.ga x.gl x.gc,.bool false,.int .i64 x.at_] 145)) x.t.cells 28
     rwa [heap_new_size,heap_new_size] at this,
     ⟨G1,⟨own_alloc (own_alloc (own_alloc hO1 _) _) _,from_piece hnd hG _ _⟩,fun b hb=>apart_take hnd hG (qa K) (by simp [hb]),fun hb=>by have:=own_lt _ _ _ hO1 _ hb;omega,fun hb=>by have:=own_lt _ _ _ hO1 _ hb;omega⟩,by omega,by simp⟩)
  have HKl:=hid (And.intro hK hlen);have HG:=hid hg;clear hcells h hc1 hc2 hnd hold hR0 hu hx hG hO hO1 hcap;go_enter Tryz.func106,Tryz.ntmps106
  go_wp2_with fail
  clear k0 k1 k2 k3 k4 k5 k6 k7 k8 hw1 hw2 hw3 hlt hlt' hne1 hne2 hK hlen hg
  go_loopw [5] (fun i wr=>∃ (k:Nat) (t:T) (y:TV),k<=K/\i=.int .i64 ((k:Int)-1)/\SL Fs w (w.heap.size+1+1) k t y wr/\trainL l k t=R0) (fun i _=>(intOf i+1).toNat)
  case atStart=>exact ⟨K,_,_,qa _,by congr 1;omega,HS.out,HR0.out⟩
  case round=>
   obtain ⟨w4,hw4⟩:∃ w4,w4=wr:=⟨_,rfl⟩;subst hw4;obtain ⟨k,t,y,hk,rfl,hs,hr⟩:=hrel;have SL4:=hid hs;clear hs
   match k,hk,SL4,hr with
   |0,hk,SL4,hr=>
    rw [trainL] at hr;have HEq:=hid hr;clear hr;have c0:=SL4.rbox.cell 0 (.int .i64 0) rfl;have c1:=SL4.rbox.cell 1 (.string ⟨#[]⟩) rfl;have c2:=SL4.rbox.cell 2 (.int .i64 0) rfl;have c3:=SL4.rbox.cell 3 (.slice none 0 0) rfl;have c4:=SL4.rbox.cell 4 (.slice none 0 0) rfl;have c5:=SL4.rbox.cell 5 (.slice none 0 0) rfl;have cf:=SL4.rbox.fz;have cl:=SL4.rbox.lt;have t0:=SL4.tbox.cell 0 (.int .i64 y.kind) rfl;have t1:=SL4.tbox.cell 1 (.string y.text) rfl;have t2:=SL4.tbox.cell 2 (.int .i64 y.n) rfl;have t3:=SL4.tbox.cell 3 (.slice y.sa y.sl y.sc) rfl;have t4:=SL4.tbox.cell 4 (.slice y.aa y.al y.ac) rfl;have t5:=SL4.tbox.cell 5 (.slice y.ka y.kl y.kc) rfl;have tf:=SL4.tbox.fz;have tl:=SL4.tbox.lt;go_wp2_with fail
    refine bodyPost_ret (v:=y.val) (by simp [results,Tryz.results106,nodeV,TV.val,TV.cells,c0,c1,c2,c3,c4,c5,cf,go_sem]) rfl ?_;rw [<-HEq.out];exact sl_ends SL4.out
   |1,hk,SL4,hr=>
    obtain ⟨u',huu'⟩:∃ u',l[0]? =some u':=⟨_,List.getElem?_eq_getElem (by have:=HKl.out;omega)⟩;obtain ⟨x',G',hxu',hGu',hOu',hcu'⟩:=us_cells HH.out SL4.below huu';have HUu':=hid (And.intro huu' (And.intro hxu' hGu'));have HC':=hid (fun W (hb:Below w4.heap.size w4 W) (q:Nat) (c:Value) (hq:x'.cells[q]? =some c)=>show W.cell? ⟨g,0*9+q,none⟩=some c from (cell_of_heap (hb.block _ (Nat.lt_of_lt_of_le HG.out SL4.below.size))).trans (hcu' q c hq));have HAu':=hid hOu'.at_;have HCapu':=hid (show x'.cap=u'.cap from hOu'.cap);rw [trainL,huu'] at hr;dsimp only at hr;clear huu' hxu' hGu' hOu' hcu';have hl0:(0:Int)<(l.length:Int):=by have:=HKl.out;omega
    have hl0':0<l.length:=by have:=HKl.out;omega
    have HB4:=hid (qb w4.heap.size w4);have e0:∀ q,0*9+q=q:=fun q=>by omega
    have v0:=HC'.out w4 HB4.out 0 (.int .i64 x'.t.kind) rfl;have v1:=HC'.out w4 HB4.out 1 (.string x'.t.text) rfl;have v2:=HC'.out w4 HB4.out 2 (.int .i64 x'.t.n) rfl;have v3:=HC'.out w4 HB4.out 3 (.slice x'.t.sa x'.t.sl x'.t.sc) rfl;have v4:=HC'.out w4 HB4.out 4 (.slice x'.t.aa x'.t.al x'.t.ac) rfl;have v5:=HC'.out w4 HB4.out 5 (.slice x'.t.ka x'.t.kl x'.t.kc) rfl;have v6:=HC'.out w4 HB4.out 6 (.slice x'.ga x'.gl x'.gc) rfl;have v7:=HC'.out w4 HB4.out 7 (.bool x'.cap) rfl;have v8:=HC'.out w4 HB4.out 8 (.int .i64 x'.at_) rfl;simp only [e0] at v0 v1 v2 v3 v4 v5 v6 v7 v8;clear e0;have hcapu':=HCapu'.out;cases hcc:u'.cap with
    |true=>
     rw [hcc] at hr hcapu';rw [hcapu'] at v7;rw [if_pos rfl] at hr;have HEq:=hid hr;clear hr hcapu';go_wp2_with (first
      |(go_at_call 27;refine (wrong_calls _ _).mono ?_;rintro e w9 ⟨rfl,rfl⟩))
     all_goals exact ⟨rfl,by rw [<-HEq.out];exact ⟨by rw [HAu'.out],SL4.below⟩⟩
    |false=>
     rw [hcc] at hr hcapu';rw [hcapu'] at v7;rw [if_neg (by simp)] at hr;have HEq:=hid hr;clear hr hcapu';have t0:=SL4.tbox.cell 0 (.int .i64 y.kind) rfl;have t1:=SL4.tbox.cell 1 (.string y.text) rfl;have t2:=SL4.tbox.cell 2 (.int .i64 y.n) rfl;have t3:=SL4.tbox.cell 3 (.slice y.sa y.sl y.sc) rfl;have t4:=SL4.tbox.cell 4 (.slice y.aa y.al y.ac) rfl;have t5:=SL4.tbox.cell 5 (.slice y.ka y.kl y.kc) rfl;have tf:=SL4.tbox.fz;have tl:=SL4.tbox.lt;go_wp2_with fail
     refine still_tail 5 (by kernel_rfl) (by kernel_rfl) ?_;simp only [List.take_succ_cons,List.take_zero,List.drop_succ_cons,List.drop_zero];repeat still_step
     refine wpStill_nil ?_;obtain ⟨G9,hN9,ha9,hb9,hc9⟩:=SL.two HH.out HND.out.1 HND.out.2 44 ⟨by omega,by omega⟩ (SL4.later HB4.out) HUu'.out.1 HUu'.out.2.1 HUu'.out.2.2;have HN9:=hid hN9;clear hN9;go_upto_region 18 with (first
      |(go_at_call 127;refine (made_calls' _ _ _ _ _).mono ?_;rintro e w9 ⟨rfl,hb⟩;have hbx:=Below_then hb (show Below (w4.alloc (.cells ⟨tcells [x'.t,y]⟩ 28)).heap.size (w4.alloc (.cells ⟨tcells [x'.t,y]⟩ 28)) _ from by first|exact qb _ _|exact (qb _ _).drew);have HN:=hid (HN9.later hbx);have HB9:=hid (Below_next HB4.out (Below_next ((qb _ _).alloc (qa _) _) hbx));clear hb hbx;have t0:=(SL4.later HB9.out).tbox.cell 0 (.int .i64 y.kind) rfl;have t1:=(SL4.later HB9.out).tbox.cell 1 (.string y.text) rfl;have t2:=(SL4.later HB9.out).tbox.cell 2 (.int .i64 y.n) rfl;have t3:=(SL4.later HB9.out).tbox.cell 3 (.slice y.sa y.sl y.sc) rfl;have t4:=(SL4.later HB9.out).tbox.cell 4 (.slice y.aa y.al y.ac) rfl;have t5:=(SL4.later HB9.out).tbox.cell 5 (.slice y.ka y.kl y.kc) rfl;have tf:=(SL4.later HB9.out).tbox.fz;have tl:=(SL4.later HB9.out).tbox.lt;simp only [nodeV,TV.val,TV.cells]))
     have hq:=SL4.next HB9.out HN.out ha9 hb9 hc9;simp only [nodeV] at hq;clear t0 t1 t2 t3 t4 t5 tf tl v0 v1 v2 v3 v4 v5 v6 v7 v8;have SL5:=hid hq
     revert SL5
     generalize World.setCell _ _ _=w5;intro SL5;clear hq;have c0:=SL5.rbox.cell 0 (.int .i64 0) rfl;have c1:=SL5.rbox.cell 1 (.string ⟨#[]⟩) rfl;have c2:=SL5.rbox.cell 2 (.int .i64 0) rfl;have c3:=SL5.rbox.cell 3 (.slice none 0 0) rfl;have c4:=SL5.rbox.cell 4 (.slice none 0 0) rfl;have c5:=SL5.rbox.cell 5 (.slice none 0 0) rfl;have cf:=SL5.rbox.fz;have cl:=SL5.rbox.lt;have t0:=SL5.tbox.cell 0 (.int .i64 (⟨44,⟨#[]⟩,0,none,0,0,none,0,0,some ⟨w4.heap.size,0,none⟩,2,2⟩:TV).kind) rfl;have t1:=SL5.tbox.cell 1 (.string (⟨44,⟨#[]⟩,0,none,0,0,none,0,0,some ⟨w4.heap.size,0,none⟩,2,2⟩:TV).text) rfl;have t2:=SL5.tbox.cell 2 (.int .i64 (⟨44,⟨#[]⟩,0,none,0,0,none,0,0,some ⟨w4.heap.size,0,none⟩,2,2⟩:TV).n) rfl;have t3:=SL5.tbox.cell 3 (.slice (⟨44,⟨#[]⟩,0,none,0,0,none,0,0,some ⟨w4.heap.size,0,none⟩,2,2⟩:TV).sa (⟨44,⟨#[]⟩,0,none,0,0,none,0,0,some ⟨w4.heap.size,0,none⟩,2,2⟩:TV).sl (⟨44,⟨#[]⟩,0,none,0,0,none,0,0,some ⟨w4.heap.size,0,none⟩,2,2⟩:TV).sc) rfl;have t4:=SL5.tbox.cell 4 (.slice (⟨44,⟨#[]⟩,0,none,0,0,none,0,0,some ⟨w4.heap.size,0,none⟩,2,2⟩:TV).aa (⟨44,⟨#[]⟩,0,none,0,0,none,0,0,some ⟨w4.heap.size,0,none⟩,2,2⟩:TV).al (⟨44,⟨#[]⟩,0,none,0,0,none,0,0,some ⟨w4.heap.size,0,none⟩,2,2⟩:TV).ac) rfl;have t5:=SL5.tbox.cell 5 (.slice (⟨44,⟨#[]⟩,0,none,0,0,none,0,0,some ⟨w4.heap.size,0,none⟩,2,2⟩:TV).ka (⟨44,⟨#[]⟩,0,none,0,0,none,0,0,some ⟨w4.heap.size,0,none⟩,2,2⟩:TV).kl (⟨44,⟨#[]⟩,0,none,0,0,none,0,0,some ⟨w4.heap.size,0,none⟩,2,2⟩:TV).kc) rfl;have tf:=SL5.tbox.fz;have tl:=SL5.tbox.lt;go_wp2_with fail
     refine bodyPost_ret (v:=(⟨44,⟨#[]⟩,0,none,0,0,none,0,0,some ⟨w4.heap.size,0,none⟩,2,2⟩:TV).val) (by simp [results,Tryz.results106,nodeV,TV.val,TV.cells,c0,c1,c2,c3,c4,c5,cf,go_sem]) rfl ?_;rw [<-HEq.out];exact sl_ends SL5.out
   |i+2,hk,SL4,hr=>
    have hij:(((i+2:Nat):Int)-1)=(i:Int)+1:=by omega
    rw [hij];obtain ⟨u2,huu2⟩:∃ u2,l[i]? =some u2:=⟨_,List.getElem?_eq_getElem (by have:=HKl.out;omega)⟩;obtain ⟨x2,G2,hxu2,hGu2,hOu2,hcu2⟩:=us_cells HH.out SL4.below huu2;have HUu2:=hid (And.intro huu2 (And.intro hxu2 hGu2));have HC2:=hid (fun W (hb:Below w4.heap.size w4 W) (q:Nat) (c:Value) (hq:x2.cells[q]? =some c)=>show W.cell? ⟨g,i*9+q,none⟩=some c from (cell_of_heap (hb.block _ (Nat.lt_of_lt_of_le HG.out SL4.below.size))).trans (hcu2 q c hq));have HAu2:=hid hOu2.at_;have HCapu2:=hid (show x2.cap=u2.cap from hOu2.cap);obtain ⟨u1,huu1⟩:∃ u1,l[(i+1)]? =some u1:=⟨_,List.getElem?_eq_getElem (by have:=HKl.out;omega)⟩;obtain ⟨x1,G1q,hxu1,hGu1,hOu1,hcu1⟩:=us_cells HH.out SL4.below huu1;have HUu1:=hid (And.intro huu1 (And.intro hxu1 hGu1));have HC1:=hid (fun W (hb:Below w4.heap.size w4 W) (q:Nat) (c:Value) (hq:x1.cells[q]? =some c)=>show W.cell? ⟨g,(i+1)*9+q,none⟩=some c from (cell_of_heap (hb.block _ (Nat.lt_of_lt_of_le HG.out SL4.below.size))).trans (hcu1 q c hq));have HAu1:=hid hOu1.at_;have HCapu1:=hid (show x1.cap=u1.cap from hOu1.cap);rw [trainL,huu2,huu1] at hr;dsimp only at hr;clear huu2 hxu2 hGu2 hOu2 hcu2 huu1 hxu1 hGu1 hOu1 hcu1 hij;have HB4:=hid (qb w4.heap.size w4);have v0:=HC2.out w4 HB4.out 0 (.int .i64 x2.t.kind) rfl;have v1:=HC2.out w4 HB4.out 1 (.string x2.t.text) rfl;have v2:=HC2.out w4 HB4.out 2 (.int .i64 x2.t.n) rfl;have v3:=HC2.out w4 HB4.out 3 (.slice x2.t.sa x2.t.sl x2.t.sc) rfl;have v4:=HC2.out w4 HB4.out 4 (.slice x2.t.aa x2.t.al x2.t.ac) rfl;have v5:=HC2.out w4 HB4.out 5 (.slice x2.t.ka x2.t.kl x2.t.kc) rfl;have v6:=HC2.out w4 HB4.out 6 (.slice x2.ga x2.gl x2.gc) rfl;have v7:=HC2.out w4 HB4.out 7 (.bool x2.cap) rfl;have v8:=HC2.out w4 HB4.out 8 (.int .i64 x2.at_) rfl;rw [Nat.add_zero] at v0;have m0:=HC1.out w4 HB4.out 0 (.int .i64 x1.t.kind) rfl;have m1:=HC1.out w4 HB4.out 1 (.string x1.t.text) rfl;have m2:=HC1.out w4 HB4.out 2 (.int .i64 x1.t.n) rfl;have m3:=HC1.out w4 HB4.out 3 (.slice x1.t.sa x1.t.sl x1.t.sc) rfl;have m4:=HC1.out w4 HB4.out 4 (.slice x1.t.aa x1.t.al x1.t.ac) rfl;have m5:=HC1.out w4 HB4.out 5 (.slice x1.t.ka x1.t.kl x1.t.kc) rfl;have m6:=HC1.out w4 HB4.out 6 (.slice x1.ga x1.gl x1.gc) rfl;have m7:=HC1.out w4 HB4.out 7 (.bool x1.cap) rfl;have m8:=HC1.out w4 HB4.out 8 (.int .i64 x1.at_) rfl;rw [Nat.add_zero] at m0;have hi0:(0:Int)<=(i:Int):=by omega
    have hi1:(i:Int)<(l.length:Int):=by have:=HKl.out;omega
    have hi2:(i:Int)+1<(l.length:Int):=by have:=HKl.out;omega
    have hi3:(0:Int)<(i:Int)+1:=by omega
    have hi4:(0:Int)<=(i:Int)+1:=by omega
    have hi5:wrap64 (i:Int)=i:=wrap_nat (by have:=HKl.out;omega);have hi6:wrap64 ((i:Int)+1)=(i:Int)+1:=by have:=HKl.out;unfold wrap64;omega
    have hi7:wrap64 ((i:Int)-1)=(i:Int)-1:=by have:=HKl.out;unfold wrap64;omega
    have hi11:wrap64 ((i:Int)+1-2)=(i:Int)-1:=by have:=HKl.out;unfold wrap64;omega
    have hi10:IntKind.i64.wrap (i:Int)=i:=by rw [IntKind.wrap_i64];have:=HKl.out;omega
    have hg4:g<w4.heap.size:=Nat.lt_of_lt_of_le HG.out SL4.below.size;have t0:=SL4.tbox.cell 0 (.int .i64 y.kind) rfl;have t1:=SL4.tbox.cell 1 (.string y.text) rfl;have t2:=SL4.tbox.cell 2 (.int .i64 y.n) rfl;have t3:=SL4.tbox.cell 3 (.slice y.sa y.sl y.sc) rfl;have t4:=SL4.tbox.cell 4 (.slice y.aa y.al y.ac) rfl;have t5:=SL4.tbox.cell 5 (.slice y.ka y.kl y.kc) rfl;have tf:=SL4.tbox.fz;have tl:=SL4.tbox.lt;go_wp2_with fail
    go_region
    ·have X2:Boxd (((w4.alloc (.cells x2.cells 145)).alloc (.cells x1.cells 145)).drew) (w4.heap.size) x2.cells:=(Boxd.new w4 x2.cells 145).later (((qb _ _).alloc (qa _) _).drew)
     have X1:Boxd (((w4.alloc (.cells x2.cells 145)).alloc (.cells x1.cells 145)).drew) (w4.heap.size+1) x1.cells:=(by have:=Boxd.new (w4.alloc (.cells x2.cells 145)) x1.cells 145;rw [heap_new_size] at this;exact this.later (qb _ _).drew);have hb5:Below w4.heap.size w4 (((w4.alloc (.cells x2.cells 145)).alloc (.cells x1.cells 145)).drew):=((((qb _ _).alloc (qa _) _).alloc (by simp) _)).drew
     revert X2 X1 hb5
     simp only [UV.cells];generalize World.drew (World.alloc (World.alloc w4 _) _)=w5;intro X2 X1 hb5;have HB5:=hid hb5;have HX2:=hid X2;have HX1:=hid X1;clear X2 X1 hb5 v0 v1 v2 v3 v4 v5 v6 v7 v8 m0 m1 m2 m3 m4 m5 m6 m7 m8 t0 t1 t2 t3 t4 t5 tf tl;have v0:=HX2.cell 0 (.int .i64 x2.t.kind) rfl;have v1:=HX2.cell 1 (.string x2.t.text) rfl;have v2:=HX2.cell 2 (.int .i64 x2.t.n) rfl;have v3:=HX2.cell 3 (.slice x2.t.sa x2.t.sl x2.t.sc) rfl;have v4:=HX2.cell 4 (.slice x2.t.aa x2.t.al x2.t.ac) rfl;have v5:=HX2.cell 5 (.slice x2.t.ka x2.t.kl x2.t.kc) rfl;have v6:=HX2.cell 6 (.slice x2.ga x2.gl x2.gc) rfl;have v7:=HX2.cell 7 (.bool x2.cap) rfl;have v8:=HX2.cell 8 (.int .i64 x2.at_) rfl;have vf:=HX2.fz;have vl:=HX2.lt;have m0:=HX1.cell 0 (.int .i64 x1.t.kind) rfl;have m1:=HX1.cell 1 (.string x1.t.text) rfl;have m2:=HX1.cell 2 (.int .i64 x1.t.n) rfl;have m3:=HX1.cell 3 (.slice x1.t.sa x1.t.sl x1.t.sc) rfl;have m4:=HX1.cell 4 (.slice x1.t.aa x1.t.al x1.t.ac) rfl;have m5:=HX1.cell 5 (.slice x1.t.ka x1.t.kl x1.t.kc) rfl;have m6:=HX1.cell 6 (.slice x1.ga x1.gl x1.gc) rfl;have m7:=HX1.cell 7 (.bool x1.cap) rfl;have m8:=HX1.cell 8 (.int .i64 x1.at_) rfl;have mf:=HX1.fz;have ml:=HX1.lt;have t0:=(SL4.later HB5.out).tbox.cell 0 (.int .i64 y.kind) rfl;have t1:=(SL4.later HB5.out).tbox.cell 1 (.string y.text) rfl;have t2:=(SL4.later HB5.out).tbox.cell 2 (.int .i64 y.n) rfl;have t3:=(SL4.later HB5.out).tbox.cell 3 (.slice y.sa y.sl y.sc) rfl;have t4:=(SL4.later HB5.out).tbox.cell 4 (.slice y.aa y.al y.ac) rfl;have t5:=(SL4.later HB5.out).tbox.cell 5 (.slice y.ka y.kl y.kc) rfl;have tf:=(SL4.later HB5.out).tbox.fz;have tl:=(SL4.later HB5.out).tbox.lt;have hcapu1:=HCapu1.out;have hcapu2:=HCapu2.out;cases hcv:u1.cap with
     |true=>
      rw [hcv] at hr hcapu1;rw [hcapu1] at m7;rw [if_pos rfl] at hr;have HEq:=hid hr;clear hr hcapu1 hcapu2;go_wp2_with (first
       |(go_at_call 27;refine (wrong_calls _ _).mono ?_;rintro e w9 ⟨rfl,rfl⟩))
      all_goals exact ⟨rfl,by rw [<-HEq.out];exact ⟨by rw [HAu1.out],Below_next SL4.below HB5.out⟩⟩
     |false=>
      rw [hcv] at hr hcapu1;rw [hcapu1] at m7;rw [if_neg (by simp)] at hr;cases hcu:u2.cap with
      |true=>
       rw [hcu] at hr hcapu2;rw [hcapu2] at v7;rw [if_pos rfl] at hr;have HEq:=hid hr;clear hr hcapu1 hcapu2;obtain ⟨G9,hN9,ha9,hb9,hc9⟩:=SL.two HH.out HND.out.1 HND.out.2 (j:=i+1) 46 ⟨by omega,by omega⟩ (SL4.later HB5.out) HUu1.out.1 HUu1.out.2.1 HUu1.out.2.2;have HN9:=hid hN9;clear hN9;go_wp2_with (first
        |(go_at_call 127;refine (made_calls' _ _ _ _ _).mono ?_;rintro e w9 ⟨rfl,hb⟩;have hbx:=Below_then hb (show Below (w5.alloc (.cells ⟨tcells [x1.t,y]⟩ 28)).heap.size (w5.alloc (.cells ⟨tcells [x1.t,y]⟩ 28)) _ from by first|exact qb _ _|exact (qb _ _).drew);have HN:=hid (HN9.later hbx);have HB9:=hid (Below_next HB5.out (Below_next ((qb _ _).alloc (qa _) _) hbx));clear hb hbx;have t0:=(SL4.later HB9.out).tbox.cell 0 (.int .i64 y.kind) rfl;have t1:=(SL4.later HB9.out).tbox.cell 1 (.string y.text) rfl;have t2:=(SL4.later HB9.out).tbox.cell 2 (.int .i64 y.n) rfl;have t3:=(SL4.later HB9.out).tbox.cell 3 (.slice y.sa y.sl y.sc) rfl;have t4:=(SL4.later HB9.out).tbox.cell 4 (.slice y.aa y.al y.ac) rfl;have t5:=(SL4.later HB9.out).tbox.cell 5 (.slice y.ka y.kl y.kc) rfl;have tf:=(SL4.later HB9.out).tbox.fz;have tl:=(SL4.later HB9.out).tbox.lt;simp only [nodeV,TV.val,TV.cells]))
       go_roundw
       case rel=>
        have hq:=SL4.next (k':=i) HB9.out HN.out (fun b hb hm=>ha9 b hb (flatten_take_sub (Nat.le_succ i) hm)) hb9 hc9;simp only [nodeV] at hq
        with_reducible refine ⟨i,_,_,?_,?_,hq,?_⟩
        ·omega
        ·first|rfl|go_num|(congr 1;omega)|(congr 1;unfold wrap64;omega)
        ·exact HEq.out
       case measure=>exact sent_meas (by omega) (by omega)
      |false=>
       rw [hcu] at hr hcapu2;rw [hcapu2] at v7;rw [if_neg (by simp)] at hr;have HEq:=hid hr;clear hr hcapu1 hcapu2;obtain ⟨G9,hN9,ha9,hb9,hc9⟩:=(SL.three HH.out HND.out.1 HND.out.2 45 ⟨by omega,by omega⟩ (SL4.later HB5.out) HUu1.out.1 HUu1.out.2.1 HUu1.out.2.2 HUu2.out.1 HUu2.out.2.1 HUu2.out.2.2).2;have HN9:=hid hN9;clear hN9;go_wp2_with (first
        |(go_at_call 127;refine (made_calls' _ _ _ _ _).mono ?_;rintro e w9 ⟨rfl,hb⟩;have hbx:=Below_then hb (show Below (w5.alloc (.cells ⟨tcells [x2.t,x1.t,y]⟩ 28)).heap.size (w5.alloc (.cells ⟨tcells [x2.t,x1.t,y]⟩ 28)) _ from by first|exact qb _ _|exact (qb _ _).drew);have HN:=hid (HN9.later hbx);have HB9:=hid (Below_next HB5.out (Below_next ((qb _ _).alloc (qa _) _) hbx));clear hb hbx;have t0:=(SL4.later HB9.out).tbox.cell 0 (.int .i64 y.kind) rfl;have t1:=(SL4.later HB9.out).tbox.cell 1 (.string y.text) rfl;have t2:=(SL4.later HB9.out).tbox.cell 2 (.int .i64 y.n) rfl;have t3:=(SL4.later HB9.out).tbox.cell 3 (.slice y.sa y.sl y.sc) rfl;have t4:=(SL4.later HB9.out).tbox.cell 4 (.slice y.aa y.al y.ac) rfl;have t5:=(SL4.later HB9.out).tbox.cell 5 (.slice y.ka y.kl y.kc) rfl;have tf:=(SL4.later HB9.out).tbox.fz;have tl:=(SL4.later HB9.out).tbox.lt;simp only [nodeV,TV.val,TV.cells]))
       go_roundw
       case rel=>
        have hq:=SL4.next (k':=i) HB9.out HN.out ha9 hb9 hc9;simp only [nodeV] at hq
        with_reducible refine ⟨i,_,_,?_,?_,hq,?_⟩
        ·omega
        ·first|rfl|go_num|(congr 1;omega)|(congr 1;unfold wrap64;omega)
        ·exact HEq.out
       case measure=>exact sent_meas (by omega) (by omega)
    ·have X2:Boxd (((w4.alloc (.cells x1.cells 145)).alloc (.cells x2.cells 145)).drew) (w4.heap.size+1) x2.cells:=(by have:=Boxd.new (w4.alloc (.cells x1.cells 145)) x2.cells 145;rw [heap_new_size] at this;exact this.later (qb _ _).drew)
     have X1:Boxd (((w4.alloc (.cells x1.cells 145)).alloc (.cells x2.cells 145)).drew) (w4.heap.size) x1.cells:=(Boxd.new w4 x1.cells 145).later (((qb _ _).alloc (qa _) _).drew);have hb5:Below w4.heap.size w4 (((w4.alloc (.cells x1.cells 145)).alloc (.cells x2.cells 145)).drew):=((((qb _ _).alloc (qa _) _).alloc (by simp) _)).drew
     revert X2 X1 hb5
     simp only [UV.cells];generalize World.drew (World.alloc (World.alloc w4 _) _)=w5;intro X2 X1 hb5;have HB5:=hid hb5;have HX2:=hid X2;have HX1:=hid X1;clear X2 X1 hb5 v0 v1 v2 v3 v4 v5 v6 v7 v8 m0 m1 m2 m3 m4 m5 m6 m7 m8 t0 t1 t2 t3 t4 t5 tf tl;have v0:=HX2.cell 0 (.int .i64 x2.t.kind) rfl;have v1:=HX2.cell 1 (.string x2.t.text) rfl;have v2:=HX2.cell 2 (.int .i64 x2.t.n) rfl;have v3:=HX2.cell 3 (.slice x2.t.sa x2.t.sl x2.t.sc) rfl;have v4:=HX2.cell 4 (.slice x2.t.aa x2.t.al x2.t.ac) rfl;have v5:=HX2.cell 5 (.slice x2.t.ka x2.t.kl x2.t.kc) rfl;have v6:=HX2.cell 6 (.slice x2.ga x2.gl x2.gc) rfl;have v7:=HX2.cell 7 (.bool x2.cap) rfl;have v8:=HX2.cell 8 (.int .i64 x2.at_) rfl;have vf:=HX2.fz;have vl:=HX2.lt;have m0:=HX1.cell 0 (.int .i64 x1.t.kind) rfl;have m1:=HX1.cell 1 (.string x1.t.text) rfl;have m2:=HX1.cell 2 (.int .i64 x1.t.n) rfl;have m3:=HX1.cell 3 (.slice x1.t.sa x1.t.sl x1.t.sc) rfl;have m4:=HX1.cell 4 (.slice x1.t.aa x1.t.al x1.t.ac) rfl;have m5:=HX1.cell 5 (.slice x1.t.ka x1.t.kl x1.t.kc) rfl;have m6:=HX1.cell 6 (.slice x1.ga x1.gl x1.gc) rfl;have m7:=HX1.cell 7 (.bool x1.cap) rfl;have m8:=HX1.cell 8 (.int .i64 x1.at_) rfl;have mf:=HX1.fz;have ml:=HX1.lt;have t0:=(SL4.later HB5.out).tbox.cell 0 (.int .i64 y.kind) rfl;have t1:=(SL4.later HB5.out).tbox.cell 1 (.string y.text) rfl;have t2:=(SL4.later HB5.out).tbox.cell 2 (.int .i64 y.n) rfl;have t3:=(SL4.later HB5.out).tbox.cell 3 (.slice y.sa y.sl y.sc) rfl;have t4:=(SL4.later HB5.out).tbox.cell 4 (.slice y.aa y.al y.ac) rfl;have t5:=(SL4.later HB5.out).tbox.cell 5 (.slice y.ka y.kl y.kc) rfl;have tf:=(SL4.later HB5.out).tbox.fz;have tl:=(SL4.later HB5.out).tbox.lt;have hcapu1:=HCapu1.out;have hcapu2:=HCapu2.out;cases hcv:u1.cap with
     |true=>
      rw [hcv] at hr hcapu1;rw [hcapu1] at m7;rw [if_pos rfl] at hr;have HEq:=hid hr;clear hr hcapu1 hcapu2;go_wp2_with (first
       |(go_at_call 27;refine (wrong_calls _ _).mono ?_;rintro e w9 ⟨rfl,rfl⟩))
      all_goals exact ⟨rfl,by rw [<-HEq.out];exact ⟨by rw [HAu1.out],Below_next SL4.below HB5.out⟩⟩
     |false=>
      rw [hcv] at hr hcapu1;rw [hcapu1] at m7;rw [if_neg (by simp)] at hr;cases hcu:u2.cap with
      |true=>
       rw [hcu] at hr hcapu2;rw [hcapu2] at v7;rw [if_pos rfl] at hr;have HEq:=hid hr;clear hr hcapu1 hcapu2;obtain ⟨G9,hN9,ha9,hb9,hc9⟩:=SL.two HH.out HND.out.1 HND.out.2 (j:=i+1) 46 ⟨by omega,by omega⟩ (SL4.later HB5.out) HUu1.out.1 HUu1.out.2.1 HUu1.out.2.2;have HN9:=hid hN9;clear hN9;go_wp2_with (first
        |(go_at_call 127;refine (made_calls' _ _ _ _ _).mono ?_;rintro e w9 ⟨rfl,hb⟩;have hbx:=Below_then hb (show Below (w5.alloc (.cells ⟨tcells [x1.t,y]⟩ 28)).heap.size (w5.alloc (.cells ⟨tcells [x1.t,y]⟩ 28)) _ from by first|exact qb _ _|exact (qb _ _).drew);have HN:=hid (HN9.later hbx);have HB9:=hid (Below_next HB5.out (Below_next ((qb _ _).alloc (qa _) _) hbx));clear hb hbx;have t0:=(SL4.later HB9.out).tbox.cell 0 (.int .i64 y.kind) rfl;have t1:=(SL4.later HB9.out).tbox.cell 1 (.string y.text) rfl;have t2:=(SL4.later HB9.out).tbox.cell 2 (.int .i64 y.n) rfl;have t3:=(SL4.later HB9.out).tbox.cell 3 (.slice y.sa y.sl y.sc) rfl;have t4:=(SL4.later HB9.out).tbox.cell 4 (.slice y.aa y.al y.ac) rfl;have t5:=(SL4.later HB9.out).tbox.cell 5 (.slice y.ka y.kl y.kc) rfl;have tf:=(SL4.later HB9.out).tbox.fz;have tl:=(SL4.later HB9.out).tbox.lt;simp only [nodeV,TV.val,TV.cells]))
       go_roundw
       case rel=>
        have hq:=SL4.next (k':=i) HB9.out HN.out (fun b hb hm=>ha9 b hb (flatten_take_sub (Nat.le_succ i) hm)) hb9 hc9;simp only [nodeV] at hq
        with_reducible refine ⟨i,_,_,?_,?_,hq,?_⟩
        ·omega
        ·first|rfl|go_num|(congr 1;omega)|(congr 1;unfold wrap64;omega)
        ·exact HEq.out
       case measure=>exact sent_meas (by omega) (by omega)
      |false=>
       rw [hcu] at hr hcapu2;rw [hcapu2] at v7;rw [if_neg (by simp)] at hr;have HEq:=hid hr;clear hr hcapu1 hcapu2;obtain ⟨G9,hN9,ha9,hb9,hc9⟩:=(SL.three HH.out HND.out.1 HND.out.2 45 ⟨by omega,by omega⟩ (SL4.later HB5.out) HUu1.out.1 HUu1.out.2.1 HUu1.out.2.2 HUu2.out.1 HUu2.out.2.1 HUu2.out.2.2).2;have HN9:=hid hN9;clear hN9;go_wp2_with (first
        |(go_at_call 127;refine (made_calls' _ _ _ _ _).mono ?_;rintro e w9 ⟨rfl,hb⟩;have hbx:=Below_then hb (show Below (w5.alloc (.cells ⟨tcells [x2.t,x1.t,y]⟩ 28)).heap.size (w5.alloc (.cells ⟨tcells [x2.t,x1.t,y]⟩ 28)) _ from by first|exact qb _ _|exact (qb _ _).drew);have HN:=hid (HN9.later hbx);have HB9:=hid (Below_next HB5.out (Below_next ((qb _ _).alloc (qa _) _) hbx));clear hb hbx;have t0:=(SL4.later HB9.out).tbox.cell 0 (.int .i64 y.kind) rfl;have t1:=(SL4.later HB9.out).tbox.cell 1 (.string y.text) rfl;have t2:=(SL4.later HB9.out).tbox.cell 2 (.int .i64 y.n) rfl;have t3:=(SL4.later HB9.out).tbox.cell 3 (.slice y.sa y.sl y.sc) rfl;have t4:=(SL4.later HB9.out).tbox.cell 4 (.slice y.aa y.al y.ac) rfl;have t5:=(SL4.later HB9.out).tbox.cell 5 (.slice y.ka y.kl y.kc) rfl;have tf:=(SL4.later HB9.out).tbox.fz;have tl:=(SL4.later HB9.out).tbox.lt;simp only [nodeV,TV.val,TV.cells]))
       go_roundw
       case rel=>
        have hq:=SL4.next (k':=i) HB9.out HN.out ha9 hb9 hc9;simp only [nodeV] at hq
        with_reducible refine ⟨i,_,_,?_,?_,hq,?_⟩
        ·omega
        ·first|rfl|go_num|(congr 1;omega)|(congr 1;unfold wrap64;omega)
        ·exact HEq.out
       case measure=>exact sent_meas (by omega) (by omega)
end Pz
end Go.Proofs.YtimcmghhbdfjfaaGreatDoor
