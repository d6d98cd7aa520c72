/- The law ParseFresh: what stays as it was from step to step. Layer 15's law: read, the term that a call answers. The law ParseFresh: its walk. A script that is read: what reads as data of its type is a list of calls in memory. -/
import Derived.Test.YtpfkhdlnjefikaaGreatDoorQShB
import Derived.Deep.Slices
import Derived.ProofKit
import Derived.OpenShut
set_option linter.unusedVariables false
set_option linter.unusedSimpArgs false
namespace Go.Proofs.YtpfkhdlnjefikaaGreatDoor
open Go.RowKit
def Aloof (D:List Nat) (lo hi:Nat):Prop:=∀ b∈D,b<lo\/hi<=b
theorem Aloof.nil (lo hi:Nat):Aloof [] lo hi:=fun _ h=>by cases h
theorem Aloof.in_ {D:List Nat} {lo hi b:Nat} (h:Aloof D lo hi) (h1:lo<=b) (h2:b<hi):b ∉ D:=fun hm=>by
 rcases h b hm with h|h<;>omega
theorem Own.out {W W':World} {t:T} {y:TV} {F D:List Nat} {lo hi:Nat} (h:Own W t y F) (hf:Fresh lo hi F) (ho:Outside D W W') (hD:Aloof D lo hi) (hh:hi<=W.heap.size):Own W' t y F:=
 Own.kept _ _ _ h (fun b hb=>ho.block b (Nat.lt_of_lt_of_le (hf.hi b hb) hh) (hD.in_ (hf.lo b hb) (hf.hi b hb)))
theorem Box.out {W W':World} {p:Nat} {x:TV} {D:List Nat} (h:Box W p x) (ho:Outside D W W') (hD:p ∉ D):Box W' p x:=by
 have hk:W'.heap[p]? =W.heap[p]? :=ho.block p h.lt hD
 exact ⟨(cell_of_heap hk).trans h.c0,(cell_of_heap hk).trans h.c1,(cell_of_heap hk).trans h.c2,(cell_of_heap hk).trans h.c3,(cell_of_heap hk).trans h.c4,(cell_of_heap hk).trans h.c5,fun o=>(World.frozen?_of_block (a:=⟨p,o,none⟩) hk).trans (h.f o)⟩
structure Both (w wr:World) (pb ps:Nat) (G:List Nat) (H:Nat->Prop):Prop where
 book:BookS wr pb G
 shelf:ShelfS wr ps H
 apart:∀ b∈G,¬H b
 gnew:∀ b∈G,w.heap.size<=b
 hnew:∀ b,H b->w.heap.size<=b
 below:Below w.heap.size w wr
theorem Both.step {w wr W:World} {pb ps:Nat} {G:List Nat} {H:Nat->Prop} (h:Both w wr pb ps G H) (hb:Below wr.heap.size wr W):Both w W pb ps G H:=
 ⟨h.book.below hb,h.shelf.below hb,h.apart,h.gnew,h.hnew,h.below.trans (hb.mono h.below.size)⟩
theorem below_of_outside {w wr W:World} {D:List Nat} (h:Below w.heap.size w wr) (ho:Outside D wr W) (hD:∀ b∈D,w.heap.size<=b):Below w.heap.size w W:=
 Outside.below h ho hD h.size
theorem Both.out {w wr W:World} {pb ps:Nat} {G D:List Nat} {H:Nat->Prop} (h:Both w wr pb ps G H) (ho:Outside D wr W) (hD:∀ b∈D,w.heap.size<=b/\b ∉ G/\¬H b):Both w W pb ps G H:=
 ⟨h.book.outside ho (fun b hb hm=>(hD b hm).2.1 hb),h.shelf.outside ho (fun b hb=>(hD b hb).2.2),h.apart,h.gnew,h.hnew,below_of_outside h.below ho (fun b hb=>(hD b hb).1)⟩
theorem Both.keep {w wr W:World} {pb ps:Nat} {G Fy:List Nat} {H:Nat->Prop} {e:Ending} (h:Both w wr pb ps G H) (hk:KeepPost wr ps H Fy e W) (hF:∀ b∈Fy,b ∉ G/\w.heap.size<=b):
 e=.returned (.tuple #[])/\∃ H' D,Both w W pb ps G H'/\Outside D wr W/\(∀ b∈D,H b)/\∀ b,H' b->H b\/b∈Fy\/wr.heap.size<=b:=by
 obtain ⟨he,H',D,h1,h2,h3,h4⟩:=hk
 have hz:=h.below.size
 refine ⟨he,H',D,⟨h.book.outside h4 (fun b hb hm=>h.apart b hb (h3 b hm)),h1,fun b hb hH=>?_,h.gnew,fun b hb=>?_,below_of_outside h.below h4 (fun b hb=>h.hnew b (h3 b hb))⟩,h4,h3,h2⟩
 ·rcases h2 b hH with h'|h'|h'
  ·exact h.apart b hb h'
  ·exact (hF b h').1 hb
  ·have:=h.book.lt b hb;omega
 ·rcases h2 b hb with h'|h'|h'
  ·exact h.hnew b h'
  ·exact (hF b h').2
  ·omega
theorem Both.take {w wr W:World} {pb ps:Nat} {G Fx:List Nat} {H:Nat->Prop} {e:Ending} (h:Both w wr pb ps G H) (hk:TakePost wr pb G Fx e W) (hF:∀ b∈Fx,¬H b/\w.heap.size<=b):
 e=.returned (.tuple #[])/\∃ G',Both w W pb ps G' H/\Outside (G++Fx) wr W/\∀ b∈G',b∈G++Fx\/wr.heap.size<=b:=by
 obtain ⟨he,G',h1,h2,h3⟩:=hk
 have hz:=h.below.size
 have hGF:∀ b∈G++Fx,¬H b/\w.heap.size<=b:=fun b hb=>by
  rcases List.mem_append.1 hb with hb|hb
  ·exact ⟨h.apart b hb,h.gnew b hb⟩
  ·exact hF b hb
 refine ⟨he,G',⟨h1,h.shelf.outside h3 (fun b hb=>(hGF b hb).1),fun b hb hH=>?_,fun b hb=>?_,h.hnew,below_of_outside h.below h3 (fun b hb=>(hGF b hb).2)⟩,h3,h2⟩
 ·rcases h2 b hb with h'|h'
  ·exact (hGF b h').1 hH
  ·have:=h.shelf.lt b hH;omega
 ·rcases h2 b hb with h'|h'
  ·exact (hGF b h').2
  ·omega
theorem both_new {w wb:World} (hb:Below w.heap.size w wb):
 Both w ((wb.alloc (.cells #[.slice none 0 0,.slice none 0 0,.slice none 0 0,.int .i64 0] 52)).alloc (.cells #[.slice none 0 0,.slice none 0 0,.int .i64 0] 55)) wb.heap.size (wb.heap.size+1) [wb.heap.size] (fun b=>b=wb.heap.size+1):=by
 have hz:=hb.size
 refine ⟨(book_new wb).below ((Below.refl _ _).alloc (Nat.le_refl _) _),⟨.slice none 0 0,.slice none 0 0,[],[],[],0,[],fun _=>False,⟨?_,?_,?_,?_,World.ownsRow_nil _ _ _ _,World.ownsRow_nil _ _ _ _,rfl,fun j u h=>by simp at h,rfl,by simp [deskT,Value.ownBlock],by simp,fun _ h=>h.elim,by simp⟩,by simp,by omega,?_,?_⟩,?_,?_,?_,?_⟩
 ·simp
 ·simp
 ·simp
 ·intro o;simp
 ·intro b hb'
  rcases hb' with hb'|hb'
  ·simpa [deskT,Value.ownBlock] using hb'
  ·exact hb'.elim
 ·rintro b rfl;simp
 ·simp
 ·simpa using hz
 ·rintro b rfl;omega
 ·exact (hb.alloc hz _).alloc (by simp;omega) _
theorem Box.at_ {w:World} {b:Nat} {x:TV} (h:Box w b x):At w b 0 x:=⟨h.c0,h.c1,h.c2,h.c3,h.c4,h.c5⟩
namespace Pz
def ofR:R T->T
 |.ok t=>t
 |.bad _ _=>noT
def ofL:R L->T
 |.ok (.noun t)=>t
 |.ok (.named _ _ t)=>t
 |_=>noT
def opT (k:Int) (S:ByteArray):T:=if k=1 then ofR (read (bl S) 3) else if k=2 then ofR (read (bl S) 1) else ofL (line (bl S))
theorem may_fits {t:T} {c:Int} (h:T.may t c=0):t.fits:=by
 unfold T.may at h
 split at h
 ·cases h
 split at h
 ·cases h
 rename_i hf
 exact Decidable.not_not.1 hf
theorem no_fits:noT.fits:=by unfold noT;decide
theorem opT_fits (k:Int) (S:ByteArray):(opT k S).fits:=by
 unfold opT
 have h3:=read_fine (bl S) 3
 have h1:=read_fine (bl S) 1
 have hl:=line_fine (bl S)
 split
 ·cases hr:read (bl S) 3 with
  |ok t=>rw [hr] at h3;exact may_fits h3.2
  |bad c p=>exact no_fits
 split
 ·cases hr:read (bl S) 1 with
  |ok t=>rw [hr] at h1;exact may_fits h1.2
  |bad c p=>exact no_fits
 ·cases hr:line (bl S) with
  |bad c p=>exact no_fits
  |ok l=>
   rw [hr] at hl
   cases l with
   |none=>exact no_fits
   |noun t=>exact may_fits hl
   |named k n t=>rcases hl.2 with h|h<;>exact may_fits h.2
   |request n a=>exact no_fits
def New (w:World) (t:T) (y:TV) (w':World):Prop:=∃ G,Own w' t y G/\From [] w.heap.size w'.heap.size G/\Below w.heap.size w w'
def RdPost (w:World) (t:T) (e:Ending) (w':World):Prop:=∃ y,e=.returned y.val/\New w t y w'
theorem new_no {w w':World} (h:Below w.heap.size w w'):New w noT zeroTV w':=⟨[],own_no w',⟨List.nodup_nil,fun b hb=>by cases hb⟩,h⟩
theorem verb_new (S:ByteArray) (w:World) (hv:Vars w) {cl:Int} {e:Ending} {w':World} (h:PRead w (read (bl S) cl) e w'):∃ y p c,e=.returned (.tuple #[y.val,.int .i64 p,.int .i64 c])/\New w (ofR (read (bl S) cl)) y w':=by
 cases hr:read (bl S) cl with
 |ok t=>
  rw [hr] at h
  obtain ⟨y,G,rfl,hO,hG,hb⟩:=h
  exact ⟨y,0,0,rfl,G,hO,hG,hb⟩
 |bad c p=>
  rw [hr] at h
  obtain ⟨rfl,hb⟩:=h
  exact ⟨zeroTV,p,c,rfl,new_no hb⟩
theorem line_new (S:ByteArray) (w:World) {e:Ending} {w':World} (h:PLine w (line (bl S)) e w'):∃ k nm y A m cap p c,e=.returned (.tuple #[lineV k nm y (.slice A m cap),.int .i64 p,.int .i64 c])/\New w (ofL (line (bl S))) y w':=by
 cases hr:line (bl S) with
 |bad c p=>
  rw [hr] at h
  obtain ⟨rfl,hb⟩:=h
  exact ⟨0,⟨#[]⟩,zeroTV,none,0,0,p,c,rfl,new_no hb⟩
 |ok l=>
  rw [hr] at h
  obtain ⟨v,rfl,hl,hb⟩:=h
  cases l with
  |none=>
   obtain rfl:v=_:=hl
   exact ⟨0,⟨#[]⟩,zeroTV,none,0,0,0,0,rfl,new_no hb⟩
  |noun t=>
   obtain ⟨y,G,rfl,hO,hG⟩:=hl
   exact ⟨1,⟨#[]⟩,y,none,0,0,0,0,rfl,G,hO,hG,hb⟩
  |named k n t=>
   obtain ⟨y,G,rfl,hO,hG⟩:=hl
   exact ⟨k,bytes n,y,none,0,0,0,0,rfl,G,hO,hG,hb⟩
  |request n a=>
   obtain ⟨av,rfl,ha⟩:=hl
   obtain ⟨A,m,k,rfl⟩:=ha.form
   exact ⟨4,bytes n,zeroTV,A,m,k,0,0,rfl,new_no hb⟩
theorem New.sets {w w0 w1 W:World} {t:T} {y:TV} {b:Nat} (h:New w0 t y w1) (hw:Below w.heap.size w w0) (hb1:w.heap.size<=b) (hb2:b<w0.heap.size) (hW:Below w1.heap.size w1 W) (v0 v1 v2 v3 v4 v5:Value):
 New w t y ((((((W.setCell ⟨b,0,none⟩ v0).setCell ⟨b,1,none⟩ v1).setCell ⟨b,2,none⟩ v2).setCell ⟨b,3,none⟩ v3).setCell ⟨b,4,none⟩ v4).setCell ⟨b,5,none⟩ v5):=by
 obtain ⟨G,hO,hG,hb⟩:=h
 refine ⟨G,own_six (Own.later' hO hW) (hG.not_mem (by simp) hb2) _ _ _ _ _ _,hG.mono hw.size (by simpa [World.setCell] using hW.size),set_sixB ((hw.trans (hb.mono hw.size)).trans (hW.mono (Nat.le_trans hw.size hb.size))) hb1 _ _ _ _ _ _⟩
set_option maxRecDepth 100000 in
set_option maxHeartbeats 1000000 in
theorem rd_calls (k:Int) (S:ByteArray) (w:World) (hv:Vars w):Calls Tryz.prog 14 #[.agg #[.int .i64 k,.string S]] w (RdPost w (opT k S)):=by
 have HB0:=hid (show Below w.heap.size w ((w.alloc (.cells #[.int .i64 k,.string S] 26)).alloc (.cells zeroT 34)) from ((Below.refl _ _).alloc (Nat.le_refl _) _).alloc (by simp) _)
 have O0:=hid ((Boxd.new w #[.int .i64 k,.string S] 26).alloc (.cells zeroT 34))
 have X0:=hid (Boxd.new (w.alloc (.cells #[.int .i64 k,.string S] 26)) zeroT 34)
 rw [World.size_alloc] at X0
 generalize hw0:(w.alloc (.cells #[.int .i64 k,.string S] 26)).alloc (.cells zeroT 34)=w0 at HB0 O0 X0
 have HW0:=hid hw0
 have HV0:=hid (hv.later HB0.out (Nat.le_refl _))
 clear hw0 hv
 have o0:=O0.out.cell 0 (.int .i64 k) rfl
 have o1:=O0.out.cell 1 (.string S) rfl
 obtain ⟨tt,htt⟩:∃ tt,opT k S=tt:=⟨_,rfl⟩
 rw [htt]
 unfold opT at htt
 by_cases h1:k=1
 ·have f1:(k==1)=true:=by simp [h1]
  rw [if_pos h1] at htt
  have HT:=hid htt
  clear htt h1
  go_enter Tryz.func14,Tryz.ntmps14
  go_upto_region 1 with fail
  rw [HW0.out]
  go_upto_region 3 with (go_at_call 8;refine (verbF_calls S _ HV0.out).mono ?_;intro e w1 hp;obtain ⟨y,p,c,rfl,hn⟩:=verb_new S _ HV0.out hp;have HN:=hid hn;clear hp hn;simp only [TV.val,TV.cells])
  generalize hW2:World.alloc w1 _=w2
  have hb2:Below w1.heap.size w1 w2:=hW2▸(Below.refl _ _).alloc (Nat.le_refl _) _
  have Y2:=hid (show Boxd w2 w1.heap.size #[.int .i64 y.kind,.string y.text,.int .i64 y.n,.slice y.sa y.sl y.sc,.slice y.aa y.al y.ac,.slice y.ka y.kl y.kc] from hW2▸Boxd.new w1 _ 34)
  have hs1:w0.heap.size<=w1.heap.size:=by obtain ⟨G,-,-,hb⟩:=HN.out;exact hb.size
  have X2:=hid ((X0.out.below (show Below w0.heap.size w0 w1 from by obtain ⟨G,-,-,hb⟩:=HN.out;exact hb) X0.out.lt).later hb2)
  have hne:¬w.heap.size+1=w1.heap.size:=by have:=X0.out.lt;omega
  have hne':¬w1.heap.size=w.heap.size+1:=fun e=>hne e.symm
  have HB2:=hid hb2
  clear hW2 hb2 hs1
  have x0:=X2.out.cell 0 (.int .i64 0) rfl
  have x1:=X2.out.cell 1 (.string ⟨#[]⟩) rfl
  have x2:=X2.out.cell 2 (.int .i64 0) rfl
  have x3:=X2.out.cell 3 (.slice none 0 0) rfl
  have x4:=X2.out.cell 4 (.slice none 0 0) rfl
  have x5:=X2.out.cell 5 (.slice none 0 0) rfl
  have xf:=X2.out.fz
  have xl:=X2.out.lt
  have y0:=Y2.out.cell 0 (.int .i64 y.kind) rfl
  have y1:=Y2.out.cell 1 (.string y.text) rfl
  have y2:=Y2.out.cell 2 (.int .i64 y.n) rfl
  have y3:=Y2.out.cell 3 (.slice y.sa y.sl y.sc) rfl
  have y4:=Y2.out.cell 4 (.slice y.aa y.al y.ac) rfl
  have y5:=Y2.out.cell 5 (.slice y.ka y.kl y.kc) rfl
  have yf:=Y2.out.fz
  have yl:=Y2.out.lt
  go_wp2_with fail
  refine bodyPost_ret (v:=y.val) (by simp [results,Tryz.results14,TV.val,TV.cells,x0,x1,x2,x3,x4,x5,xf,go_sem]) rfl ?_
  rw [<-HT.out]
  exact ⟨y,rfl,HN.out.sets HB0.out (by omega) X0.out.lt HB2.out _ _ _ _ _ _⟩
 have f1:(k==1)=false:=by simp [h1]
 rw [if_neg h1] at htt
 clear h1
 by_cases h2:k=2
 ·have f2:(k==2)=true:=by simp [h2]
  rw [if_pos h2] at htt
  have HT:=hid htt
  clear htt h2
  go_enter Tryz.func14,Tryz.ntmps14
  go_upto_region 1 with fail
  rw [HW0.out]
  go_upto_region 6 with (go_at_call 9;refine (nounF_calls S _ HV0.out).mono ?_;intro e w1 hp;obtain ⟨y,p,c,rfl,hn⟩:=verb_new S _ HV0.out hp;have HN:=hid hn;clear hp hn;simp only [TV.val,TV.cells])
  generalize hW2:World.alloc w1 _=w2
  have hb2:Below w1.heap.size w1 w2:=hW2▸(Below.refl _ _).alloc (Nat.le_refl _) _
  have Y2:=hid (show Boxd w2 w1.heap.size #[.int .i64 y.kind,.string y.text,.int .i64 y.n,.slice y.sa y.sl y.sc,.slice y.aa y.al y.ac,.slice y.ka y.kl y.kc] from hW2▸Boxd.new w1 _ 34)
  have hs1:w0.heap.size<=w1.heap.size:=by obtain ⟨G,-,-,hb⟩:=HN.out;exact hb.size
  have X2:=hid ((X0.out.below (show Below w0.heap.size w0 w1 from by obtain ⟨G,-,-,hb⟩:=HN.out;exact hb) X0.out.lt).later hb2)
  have hne:¬w.heap.size+1=w1.heap.size:=by have:=X0.out.lt;omega
  have hne':¬w1.heap.size=w.heap.size+1:=fun e=>hne e.symm
  have HB2:=hid hb2
  clear hW2 hb2 hs1
  have x0:=X2.out.cell 0 (.int .i64 0) rfl
  have x1:=X2.out.cell 1 (.string ⟨#[]⟩) rfl
  have x2:=X2.out.cell 2 (.int .i64 0) rfl
  have x3:=X2.out.cell 3 (.slice none 0 0) rfl
  have x4:=X2.out.cell 4 (.slice none 0 0) rfl
  have x5:=X2.out.cell 5 (.slice none 0 0) rfl
  have xf:=X2.out.fz
  have xl:=X2.out.lt
  have y0:=Y2.out.cell 0 (.int .i64 y.kind) rfl
  have y1:=Y2.out.cell 1 (.string y.text) rfl
  have y2:=Y2.out.cell 2 (.int .i64 y.n) rfl
  have y3:=Y2.out.cell 3 (.slice y.sa y.sl y.sc) rfl
  have y4:=Y2.out.cell 4 (.slice y.aa y.al y.ac) rfl
  have y5:=Y2.out.cell 5 (.slice y.ka y.kl y.kc) rfl
  have yf:=Y2.out.fz
  have yl:=Y2.out.lt
  go_wp2_with fail
  refine bodyPost_ret (v:=y.val) (by simp [results,Tryz.results14,TV.val,TV.cells,x0,x1,x2,x3,x4,x5,xf,go_sem]) rfl ?_
  rw [<-HT.out]
  exact ⟨y,rfl,HN.out.sets HB0.out (by omega) X0.out.lt HB2.out _ _ _ _ _ _⟩
 have f2:(k==2)=false:=by simp [h2]
 rw [if_neg h2] at htt
 have HT:=hid htt
 clear htt h2
 go_enter Tryz.func14,Tryz.ntmps14
 go_upto_region 1 with fail
 rw [HW0.out]
 go_upto_region 8 with (go_at_call 10;refine (line_calls S _ HV0.out).mono ?_;intro e w1 hp;obtain ⟨kl,nm,y,A,m,cap,p,c,rfl,hn⟩:=line_new S _ hp;have HN:=hid hn;clear hp hn;simp only [lineV])
 generalize hW2:World.alloc w1 _=w2
 have hb2:Below w1.heap.size w1 w2:=hW2▸(Below.refl _ _).alloc (Nat.le_refl _) _
 have Y2:=hid (show Boxd w2 w1.heap.size #[.int .i64 kl,.string nm,.int .i64 y.kind,.string y.text,.int .i64 y.n,.slice y.sa y.sl y.sc,.slice y.aa y.al y.ac,.slice y.ka y.kl y.kc,.slice A m cap] from hW2▸Boxd.new w1 _ 40)
 have hs1:w0.heap.size<=w1.heap.size:=by obtain ⟨G,-,-,hb⟩:=HN.out;exact hb.size
 have X2:=hid ((X0.out.below (show Below w0.heap.size w0 w1 from by obtain ⟨G,-,-,hb⟩:=HN.out;exact hb) X0.out.lt).later hb2)
 have hne:¬w.heap.size+1=w1.heap.size:=by have:=X0.out.lt;omega
 have hne':¬w1.heap.size=w.heap.size+1:=fun e=>hne e.symm
 have HB2:=hid hb2
 clear hW2 hb2 hs1
 have x0:=X2.out.cell 0 (.int .i64 0) rfl
 have x1:=X2.out.cell 1 (.string ⟨#[]⟩) rfl
 have x2:=X2.out.cell 2 (.int .i64 0) rfl
 have x3:=X2.out.cell 3 (.slice none 0 0) rfl
 have x4:=X2.out.cell 4 (.slice none 0 0) rfl
 have x5:=X2.out.cell 5 (.slice none 0 0) rfl
 have xf:=X2.out.fz
 have xl:=X2.out.lt
 have y0:=Y2.out.cell 0 (.int .i64 kl) rfl
 have y1:=Y2.out.cell 1 (.string nm) rfl
 have y2:=Y2.out.cell 2 (.int .i64 y.kind) rfl
 have y3:=Y2.out.cell 3 (.string y.text) rfl
 have y4:=Y2.out.cell 4 (.int .i64 y.n) rfl
 have y5:=Y2.out.cell 5 (.slice y.sa y.sl y.sc) rfl
 have y6:=Y2.out.cell 6 (.slice y.aa y.al y.ac) rfl
 have y7:=Y2.out.cell 7 (.slice y.ka y.kl y.kc) rfl
 have y8:=Y2.out.cell 8 (.slice A m cap) rfl
 have yf:=Y2.out.fz
 have yl:=Y2.out.lt
 go_wp2_with fail
 refine bodyPost_ret (v:=y.val) (by simp [results,Tryz.results14,TV.val,TV.cells,x0,x1,x2,x3,x4,x5,xf,go_sem]) rfl ?_
 rw [<-HT.out]
 exact ⟨y,rfl,HN.out.sets HB0.out (by omega) X0.out.lt HB2.out _ _ _ _ _ _⟩
end Pz
open Go.RowKit
namespace Pz
theorem pair_lies (w:World) (y z:TV):At (w.alloc (.cells #[.int .i64 y.kind,.string y.text,.int .i64 y.n,.slice y.sa y.sl y.sc,.slice y.aa y.al y.ac,.slice y.ka y.kl y.kc,.int .i64 z.kind,.string z.text,.int .i64 z.n,.slice z.sa z.sl z.sc,.slice z.aa z.al z.ac,.slice z.ka z.kl z.kc] 34)) w.heap.size 0 y/\
 At (w.alloc (.cells #[.int .i64 y.kind,.string y.text,.int .i64 y.n,.slice y.sa y.sl y.sc,.slice y.aa y.al y.ac,.slice y.ka y.kl y.kc,.int .i64 z.kind,.string z.text,.int .i64 z.n,.slice z.sa z.sl z.sc,.slice z.aa z.al z.ac,.slice z.ka z.kl z.kc] 34)) w.heap.size 6 z:=by
 constructor<;>constructor<;>simp [go_sem]
theorem Boxd.out {w w':World} {b:Nat} {cs:Array Value} {D:List Nat} (h:Boxd w b cs) (ho:Outside D w w') (hb:b ∉ D):Boxd w' b cs:=h.kept (ho.block b h.lt hb) ho.size
def OpsAt (w:World) (B:Nat) (A:Option Addr) (l:List (Int × ByteArray)):Prop:=
 ∀ j u,l[j]? =some u->∃ b o,A=some ⟨b,o,none⟩/\b<B/\w.cell? ⟨b,o+j*2,none⟩=some (.int .i64 u.1)/\w.cell? ⟨b,o+j*2+1,none⟩=some (.string u.2)
set_option maxRecDepth 100000 in
set_option maxHeartbeats 4000000 in
theorem fresh_calls (l:List (Int × ByteArray)) (A:Option Addr) (n c B:Nat) (w:World) (hv:Vars w) (hn:n=l.length) (hn1:n<=maxLen) (hk:OpsAt w B A l) (hB:B<=w.heap.size):
 Calls Tryz.prog 5 #[.slice A n c] w fun e w'=>e=.returned (.bool true)/\Below w.heap.size w w':=by
 unfold maxLen at hn1
 have HKS:=hid hk
 have HN:=hid hn
 have HV:=hid (fun (W:World) (h:Below w.heap.size w W)=>hv.later h (Nat.le_refl _))
 have HBG:=hid (begun_calls w hv)
 clear hk hn hv
 go_enter Tryz.func5,Tryz.ntmps5
 go_wp2_with fail
 refine HBG.out.mono ?_
 rintro e wb ⟨rfl,hbb⟩
 have hb0:=both_new hbb
 clear hbb
 go_wp2_with fail
 obtain ⟨pb,hpb⟩:∃ pb,pb=wb.heap.size:=⟨_,rfl⟩
 obtain ⟨ps,hps⟩:∃ ps,ps=wb.heap.size+1:=⟨_,rfl⟩
 rw [<-hps,<-hpb] at hb0 ⊢
 generalize (wb.alloc (.cells #[.slice none 0 0,.slice none 0 0,.slice none 0 0,.int .i64 0] 52)).alloc (.cells #[.slice none 0 0,.slice none 0 0,.int .i64 0] 55)=w0 at hb0 ⊢
 have HB0:=hid hb0
 clear hb0 hpb hps
 go_loopw [5] (fun i wr=>∃ (I:Nat) (G:List Nat) (H:Nat->Prop),I<=n/\i=.int .i64 I/\Both w wr pb ps G H) (fun i _=>n-(intOf i).toNat)
 case atStart=>exact ⟨0,[pb],_,Nat.zero_le _,rfl,HB0.out⟩
 case round=>
  obtain ⟨I,G,H,hI,rfl,hrel⟩:=hrel
  have HR:=hid hrel
  have HBW:=hid hrel.below
  by_cases hlt:I<n
  case neg=>
   have HEN:=hid (ends_calls wr ps H hrel.shelf)
   have hbook:=hid (fun (W:World) (D:List Nat) (hD:∀ b∈D,H b) (ho:Outside D wr W)=>(⟨hrel.book.outside ho (fun b hb hm=>hrel.apart b hb (hD b hm)),below_of_outside hrel.below ho (fun b hb=>hrel.hnew b (hD b hb))⟩:BookS W pb G/\Below w.heap.size w W))
   clear hrel
   go_wp2_with fail
   refine HEN.out.mono ?_
   rintro e w2 ⟨D,hD,rfl,ho⟩
   obtain ⟨h1,h2⟩:=hbook.out _ D hD ho
   have HWH:=hid (whole_calls w2 pb G h1)
   have HB2:=hid h2
   clear ho h1 h2
   go_wp2_with fail
   refine HWH.out.mono ?_
   rintro e w3 ⟨rfl,hb3⟩
   have HB3:=hid (HB2.out.trans (hb3.mono HB2.out.size))
   clear hb3
   go_wp2_with fail
   go_ret
   exact ⟨rfl,HB3.out⟩
  have hIl:I<l.length:=by rw [<-HN.out];exact hlt
  obtain ⟨b,o,he,hb,hc0,hc1⟩:=HKS.out I l[I] (List.getElem?_eq_getElem hIl)
  generalize l[I]=u at hc0 hc1
  obtain ⟨k,S⟩:=u
  simp only at hc0 hc1
  subst he
  have i0:(0:Int)<=(I:Int):=by omega
  have i1:(I:Int)<(n:Int):=by omega
  have hbl:b<wr.heap.size:=by have:=hrel.below.size;omega
  have q0:wr.cell? ⟨b,o+I*2,none⟩=some (.int .i64 k):=(hrel.below.cell (p:=⟨b,o+I*2,none⟩) (Nat.lt_of_lt_of_le hb hB)).trans hc0
  have q1:wr.cell? ⟨b,o+I*2+1,none⟩=some (.string S):=(hrel.below.cell (p:=⟨b,o+I*2+1,none⟩) (Nat.lt_of_lt_of_le hb hB)).trans hc1
  obtain ⟨U,hU⟩:∃ U,opT k S=U:=⟨_,rfl⟩
  have hUF:U.fits:=hU▸opT_fits k S
  have HUF:=hid hUF
  have HRD:=hid (fun (W:World) (h:Below w.heap.size w W)=>(hU▸rd_calls k S W (HV.out W h):Calls Tryz.prog 14 #[.agg #[.int .i64 k,.string S]] W (RdPost W U)))
  clear hrel hc0 hc1 hIl hb hU hUF
  go_upto_region 8 with fail
  have hb0:=(Below.refl wr.heap.size wr).alloc (Nat.le_refl _) (.cells #[.int .i64 k,.string S] 26)
  have ho0:=Boxd.new wr #[.int .i64 k,.string S] 26
  have hz0:(wr.alloc (.cells #[.int .i64 k,.string S] 26)).heap.size=wr.heap.size+1:=World.size_alloc ..
  generalize wr.alloc (.cells #[.int .i64 k,.string S] 26)=W0 at hb0 ho0 hz0 ⊢
  have C0:=hid hb0
  have O0:=hid ho0
  have P0:=hid (HBW.out.trans (hb0.mono HBW.out.size))
  clear hb0 ho0 q0 q1
  have o0:=O0.out.cell 0 (.int .i64 k) rfl
  have o1:=O0.out.cell 1 (.string S) rfl
  go_wp2_with fail
  refine (HRD.out W0 P0.out).mono ?_
  rintro e w1 ⟨x,rfl,GX,hX,hGX,hb1⟩
  simp only [TV.val,TV.cells]
  have hz1:=hb1.size
  have hb1a:=(Below.refl w1.heap.size w1).alloc (Nat.le_refl _) (.cells x.cells 34)
  have hx1:=Box.new w1 x 34
  have hz1a:(w1.alloc (.cells x.cells 34)).heap.size=w1.heap.size+1:=World.size_alloc ..
  have hb1b:=hb1.trans (hb1a.mono hz1)
  have ho1:=O0.out.below hb1b O0.out.lt
  simp only [TV.cells] at hb1a hx1 hz1a hb1b ho1
  have XD:=hid hX
  have XF:=hid hGX.fresh
  clear hX hGX hb1 o0 o1
  go_upto_region 9 with fail
  generalize w1.alloc (.cells #[.int .i64 x.kind,.string x.text,.int .i64 x.n,.slice x.sa x.sl x.sc,.slice x.aa x.al x.ac,.slice x.ka x.kl x.kc] 34)=W1 at hb1a hx1 hz1a hb1b ho1 ⊢
  have C1:=hid hb1b
  have D1:=hid hb1a
  have O1:=hid ho1
  have X1:=hid hx1
  have P1:=hid (P0.out.trans (hb1b.mono P0.out.size))
  clear hb1a hx1 hb1b ho1
  have o0:=O1.out.cell 0 (.int .i64 k) rfl
  have o1:=O1.out.cell 1 (.string S) rfl
  go_wp2_with fail
  refine (HRD.out W1 P1.out).mono ?_
  rintro e w2 ⟨y,rfl,GY,hY,hGY,hb2⟩
  simp only [TV.val,TV.cells]
  have hz2:=hb2.size
  have hb2a:=(Below.refl w2.heap.size w2).alloc (Nat.le_refl _) (.cells y.cells 34)
  have hy2:=Box.new w2 y 34
  have hz2a:(w2.alloc (.cells y.cells 34)).heap.size=w2.heap.size+1:=World.size_alloc ..
  have hb2b:=hb2.trans (hb2a.mono hz2)
  have ho2:=O1.out.below hb2b O1.out.lt
  simp only [TV.cells] at hb2a hy2 hz2a hb2b ho2
  have YD:=hid hY
  have YF:=hid hGY.fresh
  clear hY hGY hb2 o0 o1
  go_upto_region 10 with fail
  generalize w2.alloc (.cells #[.int .i64 y.kind,.string y.text,.int .i64 y.n,.slice y.sa y.sl y.sc,.slice y.aa y.al y.ac,.slice y.ka y.kl y.kc] 34)=W2 at hb2a hy2 hz2a hb2b ho2 ⊢
  have C2:=hid hb2b
  have D2:=hid hb2a
  have O2:=hid ho2
  have Y2:=hid hy2
  have P2:=hid (P1.out.trans (hb2b.mono P1.out.size))
  clear hb2a hy2 hb2b ho2
  have o0:=O2.out.cell 0 (.int .i64 k) rfl
  have o1:=O2.out.cell 1 (.string S) rfl
  go_wp2_with fail
  refine (HRD.out W2 P2.out).mono ?_
  rintro e w3 ⟨z,rfl,GZ,hZ,hGZ,hb3⟩
  simp only [TV.val,TV.cells]
  have hz3:=hb3.size
  have hb3a:=(Below.refl w3.heap.size w3).alloc (Nat.le_refl _) (.cells z.cells 34)
  have hz3':=Box.new w3 z 34
  have hz3a:(w3.alloc (.cells z.cells 34)).heap.size=w3.heap.size+1:=World.size_alloc ..
  have hb3b:=hb3.trans (hb3a.mono hz3)
  simp only [TV.cells] at hb3a hz3' hz3a hb3b
  have ZD:=hid hZ
  have ZF:=hid hGZ.fresh
  clear hZ hGZ hb3 o0 o1
  go_upto_region 11 with fail
  generalize w3.alloc (.cells #[.int .i64 z.kind,.string z.text,.int .i64 z.n,.slice z.sa z.sl z.sc,.slice z.aa z.al z.ac,.slice z.ka z.kl z.kc] 34)=W3 at hb3a hz3' hz3a hb3b ⊢
  have C3:=hid hb3b
  have E2:=hb3b
  have E1:=C2.out.trans (E2.mono C2.out.size)
  have E0:=C1.out.trans (E1.mono C1.out.size)
  have EW:=C0.out.trans (E0.mono C0.out.size)
  have F1:=D1.out.trans (E1.mono D1.out.size)
  have F2:=D2.out.trans (E2.mono D2.out.size)
  have XO:=hid (show Own W3 U x GX from Own.kept _ _ _ XD.out (fun b hb=>F1.block b (XF.out.hi b hb)))
  have YO:=hid (show Own W3 U y GY from Own.kept _ _ _ YD.out (fun b hb=>F2.block b (YF.out.hi b hb)))
  have ZO:=hid (show Own W3 U z GZ from Own.kept _ _ _ ZD.out (fun b hb=>hb3a.block b (ZF.out.hi b hb)))
  have OB:=hid (O0.out.below E0 O0.out.lt)
  have XB:=hid (X1.out.below E1 X1.out.lt)
  have YB:=hid (Y2.out.below E2 Y2.out.lt)
  have ZB:=hid hz3'
  have BO:=hid (HR.out.step EW)
  have HXY:=hid (eq_calls U x y W3 (Own.rep _ _ _ XO.out (own_lt _ _ _ XO.out)) (Own.rep _ _ _ YO.out (own_lt _ _ _ YO.out)) HUF.out)
  have HYZ:=hid (fun (W:World) (h:Below W3.heap.size W3 W)=>eq_calls U y z W (Own.rep _ _ _ (Own.later' YO.out h) (own_lt _ _ _ (Own.later' YO.out h))) (Own.rep _ _ _ (Own.later' ZO.out h) (own_lt _ _ _ (Own.later' ZO.out h))) HUF.out)
  simp only [TV.val,TV.cells] at HXY HYZ
  clear hb3a hz3' hb3b E2 E1 E0 EW F1 F2
  obtain ⟨x0,x1,x2,x3,x4,x5,xf⟩:=XB.out
  obtain ⟨y0,y1,y2,y3,y4,y5,yf⟩:=YB.out
  go_wp2_with fail
  refine HXY.out.mono ?_
  rintro e w4 ⟨rfl,hb4⟩
  have B4:=hid hb4
  clear x0 x1 x2 x3 x4 x5 xf y0 y1 y2 y3 y4 y5 yf hb4
  obtain ⟨y0,y1,y2,y3,y4,y5,yf⟩:=YB.out.below B4.out YB.out.lt
  obtain ⟨z0,z1,z2,z3,z4,z5,zf⟩:=ZB.out.below B4.out ZB.out.lt
  go_wp2_with fail
  refine (HYZ.out w4 B4.out).mono ?_
  rintro e w5 ⟨rfl,hb5⟩
  have B5:=hid (B4.out.trans (hb5.mono B4.out.size))
  clear y0 y1 y2 y3 y4 y5 yf z0 z1 z2 z3 z4 z5 zf hb5
  obtain ⟨y0,y1,y2,y3,y4,y5,yf⟩:=YB.out.below B5.out YB.out.lt
  obtain ⟨z0,z1,z2,z3,z4,z5,zf⟩:=ZB.out.below B5.out ZB.out.lt
  have hz5:=B5.out.size
  go_wp2_with fail
  have hb6:Below w5.heap.size w5 (w5.alloc (.cells #[.int .i64 y.kind,.string y.text,.int .i64 y.n,.slice y.sa y.sl y.sc,.slice y.aa y.al y.ac,.slice y.ka y.kl y.kc,.int .i64 z.kind,.string z.text,.int .i64 z.n,.slice z.sa z.sl z.sc,.slice z.aa z.al z.ac,.slice z.ka z.kl z.kc] 34)):=(Below.refl _ _).alloc (Nat.le_refl _) _
  have hz6:(w5.alloc (.cells #[.int .i64 y.kind,.string y.text,.int .i64 y.n,.slice y.sa y.sl y.sc,.slice y.aa y.al y.ac,.slice y.ka y.kl y.kc,.int .i64 z.kind,.string z.text,.int .i64 z.n,.slice z.sa z.sl z.sc,.slice z.aa z.al z.ac,.slice z.ka z.kl z.kc] 34)).heap.size=w5.heap.size+1:=World.size_alloc ..
  have ha:=pair_lies w5 y z
  clear y0 y1 y2 y3 y4 y5 yf z0 z1 z2 z3 z4 z5 zf
  generalize w5.alloc (.cells #[.int .i64 y.kind,.string y.text,.int .i64 y.n,.slice y.sa y.sl y.sc,.slice y.aa y.al y.ac,.slice y.ka y.kl y.kc,.int .i64 z.kind,.string z.text,.int .i64 z.n,.slice z.sa z.sl z.sc,.slice z.aa z.al z.ac,.slice z.ka z.kl z.kc] 34)=W6 at hb6 hz6 ha ⊢
  have hb36:=B5.out.trans (hb6.mono B5.out.size)
  have BO6:=hid (BO.out.step hb36)
  have XO6:=hid (Own.later' XO.out hb36)
  have YO6:=hid (Own.later' YO.out hb36)
  have OB6:=hid (OB.out.below hb36 OB.out.lt)
  have XB6:=hid (XB.out.below hb36 XB.out.lt)
  have YB6:=hid (YB.out.below hb36 YB.out.lt)
  have HGL:=hid (fun b (hb:b∈G)=>HR.out.book.lt b hb)
  have HHL:=hid (fun b (hb:H b)=>HR.out.shelf.lt b hb)
  have hws:=HBW.out.size
  have hz36:=hb36.size
  have HKE:=hid (keep_calls U y z GY GZ W6 ps w5.heap.size H BO6.out.shelf YO6.out (Own.later' ZO.out hb36)
   (List.nodup_append.2 ⟨YF.out.nodup,ZF.out.nodup,fun a ha b hb e=>by have:=YF.out.hi a ha;have:=ZF.out.lo b hb;omega⟩)
   (fun b hb=>by
    rcases List.mem_append.1 hb with hb|hb
    ·have h1:=YF.out.hi b hb
     have h2:=YF.out.lo b hb
     exact ⟨by omega,fun h=>by have:=HHL.out b h;omega⟩
    ·have h1:=ZF.out.hi b hb
     have h2:=ZF.out.lo b hb
     exact ⟨by omega,fun h=>by have:=HHL.out b h;omega⟩)
   ha.1 ha.2 (fun h=>by have:=HHL.out _ h;omega) (by omega) HUF.out 2 rfl)
  clear hb36 hb6 ha
  refine HKE.out.mono ?_
  intro e w6 hk
  obtain ⟨rfl,H',D,hbo,ho6,hDH,hH'⟩:=BO6.out.keep hk (fun b hb=>by
   rcases List.mem_append.1 hb with hb|hb
   ·have h2:=YF.out.lo b hb
    exact ⟨fun h=>by have:=HGL.out b h;omega,by omega⟩
   ·have h2:=ZF.out.lo b hb
    exact ⟨fun h=>by have:=HGL.out b h;omega,by omega⟩)
  have hDl:∀ b∈D,b<wr.heap.size:=fun b hb=>HHL.out b (hDH b hb)
  have XO7:=hid (XO6.out.out XF.out ho6 (fun b hb=>.inl (by have:=hDl b hb;omega)) (by omega))
  have YO7:=hid (YO6.out.out YF.out ho6 (fun b hb=>.inl (by have:=hDl b hb;omega)) (by omega))
  have OB7:=hid (OB6.out.out ho6 (fun hm=>by have:=hDl _ hm;omega))
  have XB7:=hid (XB6.out.out ho6 (fun hm=>by have:=hDl _ hm;omega))
  have YB7:=hid (YB6.out.out ho6 (fun hm=>by have:=hDl _ hm;omega))
  have BO7:=hid hbo
  have HH':=hid hH'
  have hz66:=ho6.size
  clear hk hbo ho6 hDH hH' hDl
  obtain ⟨x0,x1,x2,x3,x4,x5,xf⟩:=XB7.out
  go_wp2_with fail
  have hb7:=(Below.refl w6.heap.size w6).alloc (Nat.le_refl _) (.cells x.cells 34)
  have hx7:=(Box.new w6 x 34).at_
  have hz7:(w6.alloc (.cells x.cells 34)).heap.size=w6.heap.size+1:=World.size_alloc ..
  simp only [TV.cells] at hb7 hx7 hz7
  generalize w6.alloc (.cells #[.int .i64 x.kind,.string x.text,.int .i64 x.n,.slice x.sa x.sl x.sc,.slice x.aa x.al x.ac,.slice x.ka x.kl x.kc] 34)=W7 at hb7 hx7 hz7 ⊢
  have BO8:=hid (BO7.out.step hb7)
  have HTA:=hid (take_calls U x GX W7 pb w6.heap.size G BO8.out.book (Own.later' XO7.out hb7) XF.out.nodup
   (fun b hb hm=>by have:=XF.out.lo b hb;have:=HGL.out b hm;omega) (fun b hb=>by have:=XF.out.hi b hb;omega) HUF.out.1 hx7)
  have YO8:=hid (Own.later' YO7.out hb7)
  have OB8:=hid (OB7.out.below hb7 OB7.out.lt)
  have YB8:=hid (YB7.out.below hb7 YB7.out.lt)
  clear x0 x1 x2 x3 x4 x5 xf hx7 hb7
  refine HTA.out.mono ?_
  intro e w8 hk
  obtain ⟨rfl,G',hbo,ho8,hG'⟩:=BO8.out.take hk (fun b hb=>by
   have h1:=XF.out.lo b hb
   have h2:=XF.out.hi b hb
   refine ⟨fun hH=>?_,by omega⟩
   rcases HH'.out b hH with h|h|h
   ·have:=HHL.out b h;omega
   ·rcases List.mem_append.1 h with h|h
    ·have:=YF.out.lo b h;omega
    ·have:=ZF.out.lo b h;omega
   ·omega)
  have hD:∀ b∈G++GX,b<wr.heap.size\/(W0.heap.size<=b/\b<w1.heap.size):=fun b hb=>by
   rcases List.mem_append.1 hb with h|h
   ·exact .inl (HGL.out b h)
   ·exact .inr ⟨XF.out.lo b h,XF.out.hi b h⟩
  have YO9:=hid (YO8.out.out YF.out ho8 (fun b hb=>.inl (by rcases hD b hb with h|h<;>omega)) (by omega))
  have OB9:=hid (OB8.out.out ho8 (fun hm=>by rcases hD _ hm with h|h<;>omega))
  have YB9:=hid (YB8.out.out ho8 (fun hm=>by rcases hD _ hm with h|h<;>omega))
  have BO9:=hid hbo
  have HRD9:=hid (fun (W:World) (h:Below w8.heap.size w8 W)=>HRD.out W (BO9.out.below.trans (h.mono BO9.out.below.size)))
  clear hk hbo ho8 hG' hD
  have o0:=OB9.out.cell 0 (.int .i64 k) rfl
  have o1:=OB9.out.cell 1 (.string S) rfl
  have ol:=OB9.out.lt
  obtain ⟨y0,y1,y2,y3,y4,y5,yf⟩:=YB9.out
  have yl:=YB9.out.lt
  have R0:=hid (show w8.cell? ⟨wr.heap.size,0,none⟩=some (.int .i64 k)/\w8.cell? ⟨wr.heap.size,1,none⟩=some (.string S)/\w8.cell? ⟨w2.heap.size,0,none⟩=some (.int .i64 y.kind)/\w8.cell? ⟨w2.heap.size,1,none⟩=some (.string y.text)/\w8.cell? ⟨w2.heap.size,2,none⟩=some (.int .i64 y.n)/\w8.cell? ⟨w2.heap.size,3,none⟩=some (.slice y.sa y.sl y.sc)/\w8.cell? ⟨w2.heap.size,4,none⟩=some (.slice y.aa y.al y.ac)/\w8.cell? ⟨w2.heap.size,5,none⟩=some (.slice y.ka y.kl y.kc) from ⟨o0,o1,y0,y1,y2,y3,y4,y5⟩)
  go_wp2_with fail
  go_region_held3 (fun w'=>w'.cell? ⟨wr.heap.size,0,none⟩=some (.int .i64 k)/\w'.cell? ⟨wr.heap.size,1,none⟩=some (.string S)/\w'.cell? ⟨w2.heap.size,0,none⟩=some (.int .i64 y.kind)/\w'.cell? ⟨w2.heap.size,1,none⟩=some (.string y.text)/\w'.cell? ⟨w2.heap.size,2,none⟩=some (.int .i64 y.n)/\w'.cell? ⟨w2.heap.size,3,none⟩=some (.slice y.sa y.sl y.sc)/\w'.cell? ⟨w2.heap.size,4,none⟩=some (.slice y.aa y.al y.ac)/\w'.cell? ⟨w2.heap.size,5,none⟩=some (.slice y.ka y.kl y.kc))
   (first|(with_reducible exact R2.out)|(with_reducible exact R1.out)|(with_reducible exact R0.out)|go_keep|((try dsimp only);(repeat' apply And.intro);(all_goals go_keep)))
   (first
    |(go_at_call 14;refine (HRD9.out _ (by go_grown)).mono ?_;rintro e w9 ⟨v,rfl,GV,hV,hGV,hb9⟩;have K9:=hid (Below_then hb9 (show Below w8.heap.size w8 _ from by go_grown));have V9:=hid hV;have Y9:=hid (YB9.out.below K9.out YB9.out.lt);have Q9:=hid (OB9.out.below K9.out OB9.out.lt);have HE9:=hid (fun (W:World) (h:Below w9.heap.size w9 W)=>eq_calls U v y W (Own.rep _ _ _ (Own.later' V9.out h) (own_lt _ _ _ (Own.later' V9.out h))) (Own.rep _ _ _ (Own.later' (Own.later' YO9.out K9.out) h) (own_lt _ _ _ (Own.later' (Own.later' YO9.out K9.out) h))) HUF.out);simp only [TV.val,TV.cells] at HE9;have R1:=hid (show w9.cell? ⟨wr.heap.size,0,none⟩=some (.int .i64 k)/\w9.cell? ⟨wr.heap.size,1,none⟩=some (.string S)/\w9.cell? ⟨w2.heap.size,0,none⟩=some (.int .i64 y.kind)/\w9.cell? ⟨w2.heap.size,1,none⟩=some (.string y.text)/\w9.cell? ⟨w2.heap.size,2,none⟩=some (.int .i64 y.n)/\w9.cell? ⟨w2.heap.size,3,none⟩=some (.slice y.sa y.sl y.sc)/\w9.cell? ⟨w2.heap.size,4,none⟩=some (.slice y.aa y.al y.ac)/\w9.cell? ⟨w2.heap.size,5,none⟩=some (.slice y.ka y.kl y.kc) from ⟨Q9.out.cell 0 (.int .i64 k) rfl,Q9.out.cell 1 (.string S) rfl,Y9.out.c0,Y9.out.c1,Y9.out.c2,Y9.out.c3,Y9.out.c4,Y9.out.c5⟩);clear hV hGV hb9;simp only [TV.val,TV.cells])
    |(go_at_call 12;refine (HE9.out _ (by go_grown)).mono ?_;rintro e w10 ⟨rfl,hb10⟩;have K10:=hid (Below_then (Below_then hb10 (show Below w9.heap.size w9 _ from by go_grown)) K9.out);have Y10:=hid (YB9.out.below K10.out YB9.out.lt);have Q10:=hid (OB9.out.below K10.out OB9.out.lt);have R2:=hid (show w10.cell? ⟨wr.heap.size,0,none⟩=some (.int .i64 k)/\w10.cell? ⟨wr.heap.size,1,none⟩=some (.string S)/\w10.cell? ⟨w2.heap.size,0,none⟩=some (.int .i64 y.kind)/\w10.cell? ⟨w2.heap.size,1,none⟩=some (.string y.text)/\w10.cell? ⟨w2.heap.size,2,none⟩=some (.int .i64 y.n)/\w10.cell? ⟨w2.heap.size,3,none⟩=some (.slice y.sa y.sl y.sc)/\w10.cell? ⟨w2.heap.size,4,none⟩=some (.slice y.aa y.al y.ac)/\w10.cell? ⟨w2.heap.size,5,none⟩=some (.slice y.ka y.kl y.kc) from ⟨Q10.out.cell 0 (.int .i64 k) rfl,Q10.out.cell 1 (.string S) rfl,Y10.out.c0,Y10.out.c1,Y10.out.c2,Y10.out.c3,Y10.out.c4,Y10.out.c5⟩);clear hb10))
  all_goals
   have BO10:=hid (BO9.out.step K10.out)
   clear o0 o1 ol y0 y1 y2 y3 y4 y5 yf yl
   go_wp2_with fail
   go_roundw
   case rel=>first|(with_reducible exact ⟨I+1,G',H',Nat.succ_le_of_lt hlt,by go_num,BO10.out⟩)|exact ⟨I+1,G',H',Nat.succ_le_of_lt hlt,by go_num,BO10.out.step (by go_grown)⟩
   case measure=>simp [intOf];omega
end Pz
open Go.ChangeShapes Go.WideShapes Go.Deep Go.RowKit
section
variable {H:Type} {enc:TypeId × Value->H} {w:World} {base:Nat} {sp:Nat->Bool} {hd:Bool}
theorem cells_int:Tryz.prog.cellsOf 3=1:=by kernel_rfl
theorem cells_string:Tryz.prog.cellsOf 9=1:=by kernel_rfl
theorem cells_op:Tryz.prog.cellsOf 26=2:=by kernel_rfl
theorem plain_of_cell {a:Addr} {v:Value} (h:w.cell? (a.add 0)=some v):a=⟨a.block,a.off,none⟩/\a.block<w.heap.size:=by
 have hs:=World.cell?_spot h
 have hb:=World.block_lt_of_cell? w _ h
 obtain ⟨b,o,s⟩:=a
 simp only [Addr.add,if_true] at hs hb
 exact ⟨by rw [hs],hb⟩
theorem len2 {α:Type} {l:List α} (h:l.length=2):∃ a b,l=[a,b]:=by
 match l,h with
 |[a,b],_=>exact ⟨a,b,rfl⟩
theorem open_op {n:Nat} {cs:List Value} {y:DataW H × List MemPlace} (h:DataW.trod enc Tryz.prog w base sp hd n 26 cs=some y):∃ u:Int × ByteArray,cs=[.int .i64 u.1,.string u.2]:=by
 obtain ⟨xs,m,rfl,rfl,hl,hxl,hf⟩:=DataW.trod_struct Tryz.underlying26 h
 rw [cells_op] at hl
 obtain ⟨c0,c1,rfl⟩:=len2 hl
 obtain ⟨y0,y1,rfl⟩:=len2 (show xs.length=2 from hxl)
 have f0:DataW.trod enc Tryz.prog w base sp hd m 3 (([c0,c1].drop 0).take (Tryz.prog.cellsOf 3))=some y0:=hf 0 _ rfl
 rw [cells_int] at f0
 have f1:DataW.trod enc Tryz.prog w base sp hd m 9 (([c0,c1].drop 1).take (Tryz.prog.cellsOf 9))=some y1:=hf 1 _ rfl
 rw [cells_string] at f1
 obtain ⟨k,e0,_,_⟩:=DataW.trod_int Tryz.underlying3 (show DataW.trod enc Tryz.prog w base sp hd m 3 [c0]=some y0 from f0)
 obtain ⟨s,e1,_,_⟩:=DataW.trod_string Tryz.underlying9 (show DataW.trod enc Tryz.prog w base sp hd m 9 [c1]=some y1 from f1)
 cases e0
 cases e1
 exact ⟨(k,s),rfl⟩
theorem open_ops {n:Nat} {c5:Value} {y4:DataW H × List MemPlace} (f4:DataW.trod enc Tryz.prog w base sp hd n 22 [c5]=some y4):
 ∃ (ka:Option Addr) (kl kc:Nat) (l:List (Int × ByteArray)),c5=.slice ka kl kc/\kl<=maxLen/\kl=l.length/\Pz.OpsAt w w.heap.size ka l:=by
 rcases DataW.trod_slice Tryz.underlying22 f4 with ⟨h1,h2⟩|⟨a,len,cap,elems,rest,q,hq,h1,ey4,_,hlc,hcm,hel,hx,_,_⟩
 ·exact ⟨none,0,0,[],by simpa using h1,Nat.zero_le _,rfl,fun j u hj=>by simp at hj⟩
 ·have hall:∀ i,i<len->∃ u:Int × ByteArray,a=⟨a.block,a.off,none⟩/\a.block<w.heap.size/\w.cell? ⟨a.block,a.off+i*2,none⟩=some (.int .i64 u.1)/\w.cell? ⟨a.block,a.off+i*2+1,none⟩=some (.string u.2):=by
   intro i hi
   have hone:∀ i,i<len->∃ cs' e,w.cells? base (a.add (i*2)) 2=some cs'/\DataW.trod enc Tryz.prog w base sp hd q 26 cs'=some e:=by
    intro i hi
    have h3:=hx i hi
    rw [List.getElem?_eq_getElem (by omega),cells_op] at h3
    obtain ⟨cs',h4,h5⟩:=Option.bind_eq_some_iff.1 h3
    exact ⟨cs',_,h4,h5⟩
   obtain ⟨cs0,e0,h40,h50⟩:=hone 0 (by omega)
   obtain ⟨_,hcl,hc⟩:=World.cells?_some h40
   have hc0:=hc 0 (by omega)
   rw [add_add,List.getElem?_eq_getElem (by omega)] at hc0
   obtain ⟨ea,hbl⟩:=plain_of_cell hc0
   obtain ⟨cs',e,h4,h5⟩:=hone i hi
   obtain ⟨u,rfl⟩:=open_op h5
   have hc:=(World.cells?_some h4).2.2
   rw [ea] at hc
   simp only [add_plain] at hc
   exact ⟨u,ea,hbl,hc 0 (by omega),hc 1 (by omega)⟩
  obtain ⟨f,hf⟩:=choose_lt hall
  refine ⟨some a,len,cap,(List.range len).map f,by simpa using h1,Nat.le_trans hlc hcm,by simp,fun j u hu=>?_⟩
  have hj:j<len:=by
   have:=(List.getElem?_eq_some_iff.1 hu).1
   simpa using this
  have hu':f j=u:=by simpa [hj] using hu
  obtain ⟨p1,p2,p3,p4⟩:=hf j hj
  rw [hu'] at p3 p4
  exact ⟨a.block,a.off,by rw [<-p1],p2,p3,p4⟩
end
end Go.Proofs.YtpfkhdlnjefikaaGreatDoor
