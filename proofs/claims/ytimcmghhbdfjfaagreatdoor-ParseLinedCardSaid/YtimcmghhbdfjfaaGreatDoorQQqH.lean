/- Package term. -/
import Derived.StillTactics
import Derived.Deep.RegionHeld3
import Derived.Test.YtimcmghhbdfjfaaGreatDoorQQqG
import Derived.Test.YtimcmghhbdfjfaaGreatDoorQTermF
set_option linter.unusedVariables false
set_option linter.unusedSimpArgs false
set_option maxRecDepth 100000
set_option maxHeartbeats 8000000
namespace Go.Proofs.YtimcmghhbdfjfaaGreatDoor
open Go.RowKit
theorem equal_calls {B B' n ca cb:Nat} {A A':Option Addr} {l:List Int} {w:World} (h:Ints w B A n l) (h':Ints w B' A' n l) (hn:n<=17592186044416):
 Calls Tryz.prog 43 #[.slice A n ca,.slice A' n cb] w fun e w'=>e=.returned (.bool true)/\Below w.heap.size w w':=by
 have HA:=hid h;have HA':=hid h';have HN:=hid hn;clear h h' hn;go_enter Tryz.func43,Tryz.ntmps43
 go_wp2_with fail
 go_loopw [13] (fun i wr=>∃ k:Nat,k<=n/\i=.int .i64 k/\Below w.heap.size w wr) (fun i _=>n-(intOf i).toNat)
 case atStart=>exact ⟨0,Nat.zero_le _,rfl,qb _ _⟩
 case round=>
  obtain ⟨k,hk,rfl,hb⟩:=hrel;have HB:=hid hb;clear hb;by_cases hlt:k<n
  ·obtain ⟨v,hv⟩:∃ v,l[k]? =some v:=⟨l[k]'(by rw [HA.out.1];exact hlt),by simp⟩
   obtain ⟨b1,o1,rfl,_,hc1⟩:=HA.out.2 (by omega);obtain ⟨b2,o2,rfl,_,hc2⟩:=HA'.out.2 (by omega);have l1:=qc _ _ (hc1 k v hv);have l2:=qc _ _ (hc2 k v hv);have c1:wr.cell? ⟨b1,o1+k,none⟩=some (.int .i64 v):=(HB.cell (p:=⟨b1,o1+k,none⟩) l1).trans (hc1 k v hv);have c2:wr.cell? ⟨b2,o2+k,none⟩=some (.int .i64 v):=(HB.cell (p:=⟨b2,o2+k,none⟩) l2).trans (hc2 k v hv);have HT':=hid hlt;have HW:=hid (show wrap64 ((k:Int)+1)=(k:Int)+1 from by have:=HN.out;unfold wrap64;omega);have hw64:=HW.out;have hk1:(k:Int)<(n:Int):=by omega
   have hk2:(0:Int)<=(k:Int):=by omega
   clear hv hc1 hc2 l1 l2;go_wp2_with fail
   go_still (by kernel_rfl)
   go_wp2_with fail
   go_roundw
   case rel=>exact ⟨k+1,HT'.out,by go_num,HB.drew⟩
   case measure=>exact sp_meas (by first|exact Int.lt_succ _|(rw [HW.out];exact Int.lt_succ _)) (qj _) (Int.ofNat_lt.2 HT'.out)
  ·obtain rfl:k=n:=by omega
   go_wp2_with fail
   refine bodyPost_ret (v:=.bool true) (by simp [results,Tryz.results43,go_sem]) rfl ?_;exact ⟨rfl,HB.out⟩
theorem equal64_calls {B B' n ca cb:Nat} {A A':Option Addr} {l:List Int} {w:World} (h:Ints w B A n l) (h':Ints w B' A' n l) (hn:n<=17592186044416):
 Calls Tryz.prog 44 #[.slice A n ca,.slice A' n cb] w fun e w'=>e=.returned (.bool true)/\Below w.heap.size w w':=by
 have HA:=hid h;have HA':=hid h';have HN:=hid hn;clear h h' hn;go_enter Tryz.func44,Tryz.ntmps44
 go_wp2_with fail
 go_loopw [13] (fun i wr=>∃ k:Nat,k<=n/\i=.int .i64 k/\Below w.heap.size w wr) (fun i _=>n-(intOf i).toNat)
 case atStart=>exact ⟨0,Nat.zero_le _,rfl,qb _ _⟩
 case round=>
  obtain ⟨k,hk,rfl,hb⟩:=hrel;have HB:=hid hb;clear hb;by_cases hlt:k<n
  ·obtain ⟨v,hv⟩:∃ v,l[k]? =some v:=⟨l[k]'(by rw [HA.out.1];exact hlt),by simp⟩
   obtain ⟨b1,o1,rfl,_,hc1⟩:=HA.out.2 (by omega);obtain ⟨b2,o2,rfl,_,hc2⟩:=HA'.out.2 (by omega);have l1:=qc _ _ (hc1 k v hv);have l2:=qc _ _ (hc2 k v hv);have c1:wr.cell? ⟨b1,o1+k,none⟩=some (.int .i64 v):=(HB.cell (p:=⟨b1,o1+k,none⟩) l1).trans (hc1 k v hv);have c2:wr.cell? ⟨b2,o2+k,none⟩=some (.int .i64 v):=(HB.cell (p:=⟨b2,o2+k,none⟩) l2).trans (hc2 k v hv);have HT':=hid hlt;have HW:=hid (show wrap64 ((k:Int)+1)=(k:Int)+1 from by have:=HN.out;unfold wrap64;omega);have hw64:=HW.out;have hk1:(k:Int)<(n:Int):=by omega
   have hk2:(0:Int)<=(k:Int):=by omega
   clear hv hc1 hc2 l1 l2;go_wp2_with fail
   go_still (by kernel_rfl)
   go_wp2_with fail
   go_roundw
   case rel=>exact ⟨k+1,HT'.out,by go_num,HB.drew⟩
   case measure=>exact sp_meas (by first|exact Int.lt_succ _|(rw [HW.out];exact Int.lt_succ _)) (qj _) (Int.ofNat_lt.2 HT'.out)
  ·obtain rfl:k=n:=by omega
   go_wp2_with fail
   refine bodyPost_ret (v:=.bool true) (by simp [results,Tryz.results44,go_sem]) rfl ?_;exact ⟨rfl,HB.out⟩
def SameAt (t:T):Prop:=∀ (B B' p o p' o':Nat) (x x':TV) (w:World),TAt B t p o x w->TAt B' t p' o' x' w->B<=w.heap.size->B'<=w.heap.size->Calls Tryz.prog 21 #[ptr p o,ptr p' o'] w fun e w'=>e=.returned (.bool true)/\Below w.heap.size w w'
theorem same_node {t:T} (hk:∀ u∈t.kids,SameAt u):SameAt t:=by
 intro B B' p o p' o' x x' w ht ht' hB hB';have a:=ht.at_;have b:=ht'.at_;have e0:x'.kind=x.kind:=ht'.rep.kind.trans ht.rep.kind.symm;have e1:x'.text=x.text:=ht'.rep.text.trans ht.rep.text.symm;have e2:x'.n=x.n:=ht'.rep.n.trans ht.rep.n.symm;have e5:x'.kl=x.kl:=ht'.rep.kl.trans ht.rep.kl.symm;have e3:x'.sl=x.sl:=ht'.rep.shape.1.symm.trans ht.rep.shape.1;have e4:x'.al=x.al:=ht'.rep.atoms.1.symm.trans ht.rep.atoms.1;have n3:=ht.rep.wee.s1;have n4:=ht.rep.wee.a1;obtain ⟨a0,a1,a2,a3,a4,a5⟩:=a;obtain ⟨b0,b1,b2,b3,b4,b5⟩:=b;rw [e0] at b0;rw [e1] at b1;rw [e2] at b2;rw [e5] at b5;rw [e3] at b3;rw [e4] at b4;have hs':=ht'.rep.shape;have ha':=ht'.rep.atoms;rw [e3] at hs';rw [e4] at ha';have HE:=hid (fun (w1:World) (h:Below w.heap.size w w1)=>equal_calls (ca:=x.sc) (cb:=x'.sc) (ht.rep.shape.keep (Keeps.of_below h hB)) (hs'.keep (Keeps.of_below h hB')) n3);have HE6:=hid (fun (w1:World) (h:Below w.heap.size w w1)=>equal64_calls (ca:=x.ac) (cb:=x'.ac) (ht.rep.atoms.keep (Keeps.of_below h hB)) (ha'.keep (Keeps.of_below h hB')) n4);have HK:=hid hk;have HT:=hid ht;have HT':=hid ht';have HP:=hid (And.intro (Nat.lt_of_lt_of_le ht.lt hB) (Nat.lt_of_lt_of_le ht'.lt hB'));clear ht ht' hk e0 e1 e2 e5 e3 e4 hs' ha' n3 n4;go_enter Tryz.func21,Tryz.ntmps21
 go_wp2_with fail
 have HCs:=hid (fun (w1:World) (hb:Below w.heap.size w w1)=>(show (w1.cell? ⟨p,o,none⟩=some (.int .i64 x.kind)/\w1.cell? ⟨p,o+1,none⟩=some (.string x.text)/\w1.cell? ⟨p,o+2,none⟩=some (.int .i64 x.n)/\w1.cell? ⟨p,o+3,none⟩=some (.slice x.sa x.sl x.sc)/\w1.cell? ⟨p,o+4,none⟩=some (.slice x.aa x.al x.ac)/\w1.cell? ⟨p,o+5,none⟩=some (.slice x.ka x.kl x.kc)/\w1.cell? ⟨p',o',none⟩=some (.int .i64 x.kind)/\w1.cell? ⟨p',o'+1,none⟩=some (.string x.text)/\w1.cell? ⟨p',o'+2,none⟩=some (.int .i64 x.n)/\w1.cell? ⟨p',o'+3,none⟩=some (.slice x'.sa x.sl x'.sc)/\w1.cell? ⟨p',o'+4,none⟩=some (.slice x'.aa x.al x'.ac)/\w1.cell? ⟨p',o'+5,none⟩=some (.slice x'.ka x.kl x'.kc)) from ⟨(hb.cell (p:=⟨p,o,none⟩) HP.out.1).trans a0,(hb.cell (p:=⟨p,o+1,none⟩) HP.out.1).trans a1,(hb.cell (p:=⟨p,o+2,none⟩) HP.out.1).trans a2,(hb.cell (p:=⟨p,o+3,none⟩) HP.out.1).trans a3,(hb.cell (p:=⟨p,o+4,none⟩) HP.out.1).trans a4,(hb.cell (p:=⟨p,o+5,none⟩) HP.out.1).trans a5,(hb.cell (p:=⟨p',o',none⟩) HP.out.2).trans b0,(hb.cell (p:=⟨p',o'+1,none⟩) HP.out.2).trans b1,(hb.cell (p:=⟨p',o'+2,none⟩) HP.out.2).trans b2,(hb.cell (p:=⟨p',o'+3,none⟩) HP.out.2).trans b3,(hb.cell (p:=⟨p',o'+4,none⟩) HP.out.2).trans b4,(hb.cell (p:=⟨p',o'+5,none⟩) HP.out.2).trans b5⟩));have HD:=hid (Below.drew (qb w.heap.size w));dsimp only [HAppend.hAppend,Append.append,List.append];go_region_held3 (fun w'=>w'.cell? ⟨p,o,none⟩=some (.int .i64 x.kind)/\w'.cell? ⟨p,o+1,none⟩=some (.string x.text)/\w'.cell? ⟨p,o+2,none⟩=some (.int .i64 x.n)/\w'.cell? ⟨p,o+3,none⟩=some (.slice x.sa x.sl x.sc)/\w'.cell? ⟨p,o+4,none⟩=some (.slice x.aa x.al x.ac)/\w'.cell? ⟨p,o+5,none⟩=some (.slice x.ka x.kl x.kc)/\w'.cell? ⟨p',o',none⟩=some (.int .i64 x.kind)/\w'.cell? ⟨p',o'+1,none⟩=some (.string x.text)/\w'.cell? ⟨p',o'+2,none⟩=some (.int .i64 x.n)/\w'.cell? ⟨p',o'+3,none⟩=some (.slice x'.sa x.sl x'.sc)/\w'.cell? ⟨p',o'+4,none⟩=some (.slice x'.aa x.al x'.ac)/\w'.cell? ⟨p',o'+5,none⟩=some (.slice x'.ka x.kl x'.kc))
  (first|(with_reducible exact HCs.out _ (HB2.out))|(with_reducible exact HCs.out _ (HB1.out))|(with_reducible exact HCs.out _ HD.out)|go_keep)
  (first
   |(go_at_call 43;(with_reducible refine (HE.out _ HD.out).mono ?_);rintro e w1 ⟨rfl,hb1⟩;have HB1:=hid (HD.trans hb1);clear hb1)
   |(go_at_call 44;(with_reducible refine (HE6.out _ HB1.out).mono ?_);rintro e w2 ⟨rfl,hb2⟩;have HB2:=hid (HB1.trans (hb2.mono HB1.size));clear hb2))
 go_wp2_with fail
 have HKL:=hid (show x.kl=t.kids.length from HT.rep.kl);have HL1:=hid (show x.kl<=2199023255552 from HT.rep.wee.l1)
 go_loopw [83] (fun i wr=>∃ k:Nat,k<=x.kl/\i=.int .i64 k/\Below w.heap.size w wr) (fun i _=>x.kl-(intOf i).toNat)
 case atStart=>exact ⟨0,Nat.zero_le _,rfl,HB2.out⟩
 case round=>
  obtain ⟨k,hk,rfl,hb⟩:=hrel;have HBk:=hid hb;obtain ⟨_,_,_,_,_,d5,_,_,_,_,_,g5⟩:=HCs.out _ hb;clear hb a0 a1 a2 a3 a4 a5 b0 b1 b2 b3 b4 b5;by_cases hlt:k<x.kl
  ·obtain ⟨u,hu⟩:∃ u,t.kids[k]? =some u:=⟨t.kids[k]'(by rw [<-HKL.out];exact hlt),by simp⟩
   obtain ⟨q,r,y,hka,hy⟩:=HT.kid hu;obtain ⟨q',r',y',hka',hy'⟩:=HT'.kid hu;rw [hka] at d5;rw [hka'] at g5;have HBd:=hid (HBk.trans ((Below.drew (qb _ _)).mono HBk.size));have HQ:=hid (HK.out u (List.mem_of_getElem? hu) B B' q (r+k*6) q' (r'+k*6) y y' _ (hy.below (HBd.mono hB)) (hy'.below (HBd.mono hB')) (qi hB HBd.size) (qi hB' HBd.size));have HLt:=hid hlt;have HW:=hid (show wrap64 ((k:Int)+1)=(k:Int)+1 from by have:=HL1.out;unfold wrap64;omega);have hw64:=HW.out;have hk1:(k:Int)<(x.kl:Int):=by omega
   have hk2:(0:Int)<=(k:Int):=by omega
   clear hu hka hka' hy hy';go_wp2_with fail
   refine still_tailP 12 (by kernel_rfl) (by kernel_rfl) ?_;simp only [List.take_succ_cons,List.take_zero,List.drop_succ_cons,List.drop_zero];repeat still_step
   refine wpStill_nil ?_;go_wp2_with fail
   refine HQ.mono ?_;rintro e w7 ⟨rfl,hb7⟩;have HB7:=hid (HBd.trans (hb7.mono HBd.size));clear hb7;go_wp2_with fail
   go_roundw
   case rel=>exact ⟨k+1,HLt.out,by go_num,HB7.out⟩
   case measure=>exact sp_meas (by first|exact Int.lt_succ _|(rw [HW.out];exact Int.lt_succ _)) (qj _) (Int.ofNat_lt.2 HLt.out)
  ·obtain rfl:k=x.kl:=by omega
   go_wp2_with fail
   refine bodyPost_ret (v:=.bool true) (by simp [results,Tryz.results21,go_sem]) rfl ?_;exact ⟨rfl,HBk.out⟩
theorem same_all (t:T):SameAt t:=by
 refine T.ind (P:=SameAt) ?_ t;intro k s n sh a l ih;exact same_node ih
def SmallAt (x:TV) (w:World):Prop:=∀ W,Below w.heap.size w W->Calls Tryz.prog 15 #[x.val] W fun e w'=>e=.returned (.bool false)/\Below W.heap.size W w'
theorem box_at (w:World) (x:TV):At (w.alloc (.cells x.cells 28)) w.heap.size 0 x:=by
 have k:(w.alloc (.cells x.cells 28)).heap[w.heap.size]? =some (.cells x.cells 28 (0,0)):=heap_alloc_new w _;refine ⟨?_,?_,?_,?_,?_,?_⟩<;>(rw [Lib.cell_of_heap k];rfl)
theorem Same_calls {t:T} {x x':TV} {w:World} (hr:Rep w w.heap.size t x) (hr':Rep w w.heap.size t x') (hs:SmallAt x w) (hs':SmallAt x' w):
 Calls Tryz.prog 11 #[x.val,x'.val] w fun e w'=>e=.returned (.bool true)/\Below w.heap.size w w':=by
 have hA:=(qb w.heap.size w).alloc (qa _) (.cells x.cells 28);have e1:(w.alloc (.cells x.cells 28)).heap.size=w.heap.size+1:=by simp
 have hA2:=(qb _ (w.alloc (.cells x.cells 28))).alloc (qa _) (.cells x'.cells 28);have k1:=box_at (w.alloc (.cells x.cells 28)) x';have k0:=box_at w x;rw [e1] at k1 hA2;have k0:=k0.keep (Nat.lt_succ_self _) (Keeps.of_below hA2 (qa _));have hB:Below w.heap.size w ((w.alloc (.cells x.cells 28)).alloc (.cells x'.cells 28)):=hA.trans (hA2.mono (Nat.le_succ _));have hz:((w.alloc (.cells x.cells 28)).alloc (.cells x'.cells 28)).heap.size=w.heap.size+2:=by simp
 have HR:=hid hr;have HR':=hid hr';have HS:=hid hs;have HS':=hid hs';clear hr hr' hs hs' hA hA2 e1;unfold SmallAt at HS HS';unfold TV.val TV.cells;unfold TV.val at HS HS';unfold TV.cells at HS HS' k0 k1 hB hz;go_enter Tryz.func11,Tryz.ntmps11
 go_upto_region 1 with fail
 generalize (w.alloc _).alloc _=w1 at*;have K0:=hid k0;have K1:=hid k1;have HB:=hid hB;have HZ:=hid hz;obtain ⟨a0,a1,a2,a3,a4,a5⟩:=k0;obtain ⟨b0,b1,b2,b3,b4,b5⟩:=k1;clear hB hz;go_wp2_with fail
 refine (HS.out _ HB.out).mono ?_;rintro e w2 ⟨rfl,h2⟩;have HB2:=hid (HB.trans (h2.mono HB.size));have HL2:=hid h2.size;have K2:=hid (K0.keep (B:=w1.heap.size) (by have:=HZ.out;omega) (Keeps.of_below h2 (qa _)));have K3:=hid (K1.keep (B:=w1.heap.size) (by have:=HZ.out;omega) (Keeps.of_below h2 (qa _)));clear h2 a0 a1 a2 a3 a4 a5 b0 b1 b2 b3 b4 b5;obtain ⟨b0,b1,b2,b3,b4,b5⟩:=K3.out;go_wp2_with fail
 refine (HS'.out _ HB2.out).mono ?_;rintro e w3 ⟨rfl,h3⟩;have HB3:=hid (HB2.trans (h3.mono HB2.size));have K4:=hid (K2.keep (B:=w2.heap.size) (by have:=HZ.out;have:=HL2.out;omega) (Keeps.of_below h3 (qa _)));have K5:=hid (K3.keep (B:=w2.heap.size) (by have:=HZ.out;have:=HL2.out;omega) (Keeps.of_below h3 (qa _)));have HL3:=hid h3.size;clear h3 b0 b1 b2 b3 b4 b5;have hsz:w.heap.size+2<=w3.heap.size:=by have:=HZ.out;have:=HL2.out;have:=HL3.out;omega
 have HQ:=hid (same_all t (w.heap.size+2) (w.heap.size+2) w.heap.size 0 (w.heap.size+1) 0 x x' w3 ⟨K4.out,by omega,Rep.mono (by omega) t x (HR.below HB3.out (qa _))⟩ ⟨K5.out,by omega,Rep.mono (by omega) t x' (HR'.below HB3.out (qa _))⟩ hsz hsz);clear hsz;go_wp2_with fail
 refine HQ.mono ?_;rintro e w4 ⟨rfl,h4⟩;have HB4:=hid (HB3.trans (h4.mono HB3.size));clear h4;go_wp2_with fail
 refine bodyPost_ret (v:=.bool true) (by simp [results,Tryz.results11,go_sem]) rfl ?_;exact ⟨rfl,HB4.out⟩
theorem mayAt_of {t:T} {x:TV} {w:World} (c:Int) (hr:Rep w w.heap.size t x):MayAt x c (T.may t c) w:=
 fun W hW=>may_calls t x w.heap.size c W (hr.below hW (qa _)) hW.size
theorem smallAt_of {t:T} {x:TV} {w:World} (hf:t.fits) (hr:Rep w w.heap.size t x):SmallAt x w:=
 fun _W hW=>great_known (v:=false) (by simp [hf]) hr (qa _) hW
end Go.Proofs.YtimcmghhbdfjfaaGreatDoor
