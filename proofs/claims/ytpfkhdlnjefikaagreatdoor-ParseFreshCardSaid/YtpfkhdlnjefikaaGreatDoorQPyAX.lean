/- The law's own functions: deep, Eq, of terms that are the same. Layer 15's law: nothing compared with nothing. Layer 15's law: ParseBytes, walked. -/
import Derived.Test.YtpfkhdlnjefikaaGreatDoorQPyAR
set_option linter.unusedVariables false
set_option linter.unusedSimpArgs false
namespace Go.Proofs.YtpfkhdlnjefikaaGreatDoor
open Go.RowKit
structure Ticks (w:World) (pb:Nat) (L:Int) (w':World):Prop where
 grown:w.grownBy w' (some pb)
 cell:w'.cell? ⟨pb,0,none⟩=some (.int .i64 L)
 free:w'.frozen? ⟨pb,0,none⟩=false
theorem grown_drewN {a w:World} {row:Option Nat} (h:a.grownBy w row) (n:Nat):a.grownBy (w.drewN n) row:=⟨h.os,h.tape,h.output,h.size,h.block⟩
theorem Ticks.drewN {w w':World} {pb:Nat} {L:Int} (h:Ticks w pb L w') (n:Nat):Ticks w pb L (w'.drewN n):=⟨grown_drewN h.grown n,h.cell,h.free⟩
theorem Ticks.trans {a b c:World} {pb:Nat} {L L':Int} (h:Ticks a pb L b) (k:Ticks b pb L' c):Ticks a pb L' c:=⟨h.grown.trans k.grown,k.cell,k.free⟩
theorem Ticks.keeps {w w':World} {pb B:Nat} {L:Int} (h:Ticks w pb L w') (hB:B<=pb) (hw:B<=w.heap.size):Keeps B w w':=Keeps.of_grown h.grown hw (fun g e=>by cases e;exact hB)
theorem Box.drewN {w:World} {b:Nat} {x:TV} (h:Box w b x) (n:Nat):Box (w.drewN n) b x:=⟨h.c0,h.c1,h.c2,h.c3,h.c4,h.c5,h.f⟩
theorem grown_of_new {w w':World} {row:Option Nat} (h:Below w.heap.size w w'):w.grownBy w' row:=⟨h.os,h.tape,h.output,h.size,fun i hi _=>h.block i hi⟩
theorem Box.ticks {w w':World} {b pb:Nat} {x:TV} {L:Int} (h:Box w b x) (k:Ticks w pb L w') (hne:b≠pb):Box w' b x:=
 ⟨k.grown.cell h.c0 (by simpa using hne),k.grown.cell h.c1 (by simpa using hne),k.grown.cell h.c2 (by simpa using hne),k.grown.cell h.c3 (by simpa using hne),k.grown.cell h.c4 (by simpa using hne),k.grown.cell h.c5 (by simpa using hne),
  fun o=>(World.frozen?_of_block (a:=⟨b,o,none⟩) (k.grown.block b h.lt (by simpa using hne))).trans (h.f o)⟩
structure DeepRel (w:World) (pb:Nat) (L:Int) (x y:TV) (wr:World):Prop where
 t:Ticks w pb L wr
 bx:Box wr w.heap.size x
 by_:Box wr (w.heap.size+1) y
theorem DeepRel.drewN {w wr:World} {pb:Nat} {L:Int} {x y:TV} (h:DeepRel w pb L x y wr) (n:Nat):DeepRel w pb L x y (wr.drewN n):=⟨h.t.drewN n,h.bx.drewN n,h.by_.drewN n⟩
theorem DeepRel.drew {w wr:World} {pb:Nat} {L:Int} {x y:TV} (h:DeepRel w pb L x y wr):DeepRel w pb L x y wr.drew:=h.drewN 1
theorem DeepRel.step {w wr w2:World} {pb:Nat} {L L':Int} {x y:TV} (h:DeepRel w pb L x y wr) (k:Ticks wr.drew pb L' w2) (hp:pb<w.heap.size):DeepRel w pb L' x y w2:=
 ⟨h.drew.t.trans k,h.drew.bx.ticks k (by omega),h.drew.by_.ticks k (by omega)⟩
def DeepPost (t:T) (w:World) (pb:Nat) (L:Int) (e:Ending) (w':World):Prop:=e=.returned (.bool true)/\Ticks w pb (L-t.nodes) w'
def DeepAll (t:T):Prop:=∀ (x y:TV) (B:Nat) (w:World) (pb:Nat) (down L:Int),Rep w B t x->Rep w B t y->B<=pb->pb<w.heap.size->w.cell? ⟨pb,0,none⟩=some (.int .i64 L)->w.frozen? ⟨pb,0,none⟩=false->
 (t.height:Int)<=down+1->down<=255->(t.nodes:Int)<=L->L<=4096->
 Calls Tryz.prog 33 #[x.val,y.val,.int .i64 down,.pointer (some ⟨pb,0,none⟩)] w (DeepPost t w pb L)
theorem nodesL_take {l:List T} {K:Nat} {u:T} (h:l[K]? =some u):T.nodesL (l.take (K+1))=T.nodesL (l.take K)+u.nodes:=by
 have:∀ a b:List T,T.nodesL (a++b)=T.nodesL a+T.nodesL b:=by
  intro a b
  induction a with
  |nil=>simp [T.nodesL]
  |cons t a ih=>simp only [List.cons_append,T.nodesL,ih];omega
 rw [List.take_add_one,h,this]
 simp [T.nodesL]
theorem nodesL_take_le (l:List T) (K:Nat):T.nodesL (l.take K)<=T.nodesL l:=by
 induction l generalizing K with
 |nil=>simp [T.nodesL]
 |cons t l ih=>cases K with
  |zero=>simp [T.nodesL]
  |succ K=>have:=ih K;simp only [List.take_succ_cons,T.nodesL];omega
theorem Ints.get {w:World} {B len:Nat} {A:Option Addr} {xs:List Int} (h:Ints w B A len xs) {i:Nat} (hi:i<len):∃ b o v,A=some ⟨b,o,none⟩/\b<B/\xs[i]? =some v/\w.cell? ⟨b,o+i,none⟩=some (.int .i64 v):=by
 obtain ⟨b,o,e,hb,hc⟩:=h.2 (by omega)
 have:i<xs.length:=by rw [h.1];exact hi
 exact ⟨b,o,xs[i],e,hb,List.getElem?_eq_getElem this,hc i _ (List.getElem?_eq_getElem this)⟩
set_option maxRecDepth 100000 in
set_option maxHeartbeats 4000000 in
theorem deep_all (t:T):DeepAll t:=by
 refine T.ind (P:=DeepAll) ?_ t
 intro k s n sh a l ih x y B w pb down L hx hy hB hpb hcell hfree hdown hd255 hL hL4
 have hxs:=hx.shape
 have hxa:=hx.atoms
 have hys:=hy.shape
 have hya:=hy.atoms
 simp only [T.shape_mk,T.atoms_mk] at hxs hxa hys hya
 have hwx:=hx.wee
 have hk1:=hwx.l1
 have hs1:=hwx.s1
 have ha1:=hwx.a1
 have HX:=hid hx
 have HY:=hid hy
 obtain ⟨hxk,hyk⟩:=And.intro hx.kind hy.kind
 obtain ⟨hxt,hyt⟩:=And.intro hx.text hy.text
 obtain ⟨hxn,hyn⟩:=And.intro hx.n hy.n
 obtain ⟨hxl,hyl⟩:=And.intro hx.kl hy.kl
 have hsl:y.sl=x.sl:=hys.1.symm.trans hxs.1
 have hal:y.al=x.al:=hya.1.symm.trans hxa.1
 simp only [T.kind_mk,T.text_mk,T.n_mk,T.kids_mk] at hxk hyk hxt hyt hxn hyn hxl hyl
 clear hx hy hwx
 obtain ⟨xk,xt,xn,xsa,xsl,xsc,xaa,xal,xac,xka,xkl,xkc⟩:=x
 obtain ⟨yk,yt,yn,ysa,ysl,ysc,yaa,yal,yac,yka,ykl,ykc⟩:=y
 simp only at hxk hyk hxt hyt hxn hyn hxl hyl hsl hal hxs hxa hys hya hk1 hs1 ha1
 subst hxk hxt hxn hsl hal
 subst hyk hyt hyn
 obtain rfl:ykl=xkl:=hyl.trans hxl.symm
 clear hyl
 have HIH:=hid ih
 have HXL:=hid hxl
 have hHt:(1:Int)+T.heightL l<=down+1:=by simp only [T.height] at hdown;omega
 have hNd:(1:Int)+T.nodesL l<=L:=by simp only [T.nodes] at hL;omega
 have HHT:=hid hHt
 have HND:=hid hNd
 have HN1:=hid (show (T.mk yk yt yn sh a l).nodes=1+T.nodesL l by simp [T.nodes])
 have hd0:0<=down:=by omega
 have hL1:1<=L:=by omega
 have hx0:=(Box.new w ⟨yk,yt,yn,xsa,ysl,xsc,xaa,yal,xac,xka,ykl,xkc⟩ 34).alloc (.cells (TV.cells ⟨yk,yt,yn,ysa,ysl,ysc,yaa,yal,yac,yka,ykl,ykc⟩) 34)
 have hy0:=Box.new (w.alloc (.cells (TV.cells ⟨yk,yt,yn,xsa,ysl,xsc,xaa,yal,xac,xka,ykl,xkc⟩) 34)) ⟨yk,yt,yn,ysa,ysl,ysc,yaa,yal,yac,yka,ykl,ykc⟩ 34
 have hb0:Below w.heap.size w ((w.alloc (.cells (TV.cells ⟨yk,yt,yn,xsa,ysl,xsc,xaa,yal,xac,xka,ykl,xkc⟩) 34)).alloc (.cells (TV.cells ⟨yk,yt,yn,ysa,ysl,ysc,yaa,yal,yac,yka,ykl,ykc⟩) 34)):=by go_grown
 have hz0:((w.alloc (.cells (TV.cells ⟨yk,yt,yn,xsa,ysl,xsc,xaa,yal,xac,xka,ykl,xkc⟩) 34)).alloc (.cells (TV.cells ⟨yk,yt,yn,ysa,ysl,ysc,yaa,yal,yac,yka,ykl,ykc⟩) 34)).heap.size=w.heap.size+2:=by simp
 clear hz0
 simp only [World.size_alloc,TV.cells] at hx0 hy0 hb0
 simp only [TV.val,TV.cells]
 clear ih hdown hL hHt hNd hxl
 go_enter Tryz.func33,Tryz.ntmps33
 go_upto_region 1 with fail
 generalize (w.alloc (.cells #[.int .i64 yk,.string yt,.int .i64 yn,.slice xsa ysl xsc,.slice xaa yal xac,.slice xka ykl xkc] 34)).alloc (.cells #[.int .i64 yk,.string yt,.int .i64 yn,.slice ysa ysl ysc,.slice yaa yal yac,.slice yka ykl ykc] 34)=w0 at hx0 hy0 hb0 ⊢
 have hc0:w0.cell? ⟨pb,0,none⟩=some (.int .i64 L):=(hb0.cell (p:=⟨pb,0,none⟩) hpb).trans hcell
 have hf0:w0.frozen? ⟨pb,0,none⟩=false:=(hb0.frozen (p:=⟨pb,0,none⟩) hpb).trans hfree
 have hz0y:=hy0.lt
 have hz0p:pb<w0.heap.size:=by omega
 have hw1:IntKind.i64.wrap (L-1)=L-1:=by rw [IntKind.wrap_i64];omega
 have HT1:Hid (Ticks w pb (L-1) (w0.setCell ⟨pb,0,none⟩ (.int .i64 (L-1)))):=hid ⟨(grown_of_new hb0).trans (grown_set w0 pb 0 _),World.cell?_setCell_same _ _ _ hc0,by simp [hf0]⟩
 have HX1:=hid (hx0.other (b':=pb) (o:=0) (by omega) (.int .i64 (L-1)))
 have HY1:=hid (hy0.other (b':=pb) (o:=0) (by omega) (.int .i64 (L-1)))
 obtain ⟨a0,a1,a2,a3,a4,a5,af⟩:=hx0
 obtain ⟨c0,c1,c2,c3,c4,c5,cf⟩:=hy0
 simp only at a0 a1 a2 a3 a4 a5 c0 c1 c2 c3 c4 c5
 have hnx:¬pb=w.heap.size:=by omega
 have hny:¬pb=w.heap.size+1:=by omega
 have hl2:0<=L-1:=by omega
 clear hb0
 go_wp2_with fail
 have HD1:Hid (DeepRel w pb (L-1) ⟨yk,yt,yn,xsa,ysl,xsc,xaa,yal,xac,xka,ykl,xkc⟩ ⟨yk,yt,yn,ysa,ysl,ysc,yaa,yal,yac,yka,ykl,ykc⟩ (w0.setCell ⟨pb,0,none⟩ (.int .i64 (L-1)))):=hid ⟨HT1.out,HX1.out,HY1.out⟩
 have hpb0:B<=pb:=hB
 clear a0 a1 a2 a3 a4 a5 af c0 c1 c2 c3 c4 c5 cf HT1 HX1 HY1 hc0 hf0 hnx hny hw1
 go_loopw [9] (fun i wr=>∃ K:Nat,K<=ysl/\i=.int .i64 K/\DeepRel w pb (L-1) ⟨yk,yt,yn,xsa,ysl,xsc,xaa,yal,xac,xka,ykl,xkc⟩ ⟨yk,yt,yn,ysa,ysl,ysc,yaa,yal,yac,yka,ykl,ykc⟩ wr) (fun i _=>ysl-(intOf i).toNat)
 case atStart=>exact ⟨0,Nat.zero_le _,rfl,HD1.out⟩
 case round=>
  obtain ⟨K,hK,rfl,hrel⟩:=hrel
  have HREL:=hid hrel
  obtain ⟨q0,q1,q2,q3,q4,q5,qf⟩:=hrel.bx
  obtain ⟨r0,r1,r2,r3,r4,r5,rf⟩:=hrel.by_
  simp only at q0 q1 q2 q3 q4 q5 r0 r1 r2 r3 r4 r5
  have hkeep:=hrel.t.keeps hpb0 (by omega)
  clear hrel
  by_cases hlt:K<ysl
  ·obtain ⟨b1,o1,v1,e1,hb1,hv1,hc1⟩:=hxs.get hlt
   obtain ⟨b2,o2,v2,e2,hb2,hv2,hc2⟩:=hys.get hlt
   obtain rfl:v1=v2:=Option.some.inj (hv1.symm.trans hv2)
   have p1:=(hkeep b1 _ hb1).trans hc1
   have p2:=(hkeep b2 _ hb2).trans hc2
   rw [e1] at q3
   rw [e2] at r3
   have hk0:(0:Int)<=(K:Int):=by omega
   have hk1:(K:Int)<(ysl:Int):=by omega
   clear hv1 hv2 hc1 hc2 e1 e2 hkeep
   go_wp2_with fail
   go_quiet (fail)
   go_wp2_with fail
   go_roundw
   case rel=>exact ⟨K+1,by omega,by go_num,HREL.out.drewN _⟩
   case measure=>simp [intOf];omega
  ·clear hkeep
   go_wp2_with fail
   clear q0 q1 q2 q3 q4 q5 qf r0 r1 r2 r3 r4 r5 rf
   have HD2:=HREL
   clear HREL
   go_loopw [10] (fun i wr=>∃ K:Nat,K<=yal/\i=.int .i64 K/\DeepRel w pb (L-1) ⟨yk,yt,yn,xsa,ysl,xsc,xaa,yal,xac,xka,ykl,xkc⟩ ⟨yk,yt,yn,ysa,ysl,ysc,yaa,yal,yac,yka,ykl,ykc⟩ wr) (fun i _=>yal-(intOf i).toNat)
   case atStart=>exact ⟨0,Nat.zero_le _,rfl,HD2.out⟩
   case round=>
    obtain ⟨K,hK,rfl,hrel⟩:=hrel
    have HREL:=hid hrel
    obtain ⟨q0,q1,q2,q3,q4,q5,qf⟩:=hrel.bx
    obtain ⟨r0,r1,r2,r3,r4,r5,rf⟩:=hrel.by_
    simp only at q0 q1 q2 q3 q4 q5 r0 r1 r2 r3 r4 r5
    have hkeep:=hrel.t.keeps hpb0 (by omega)
    clear hrel
    by_cases hlt:K<yal
    ·obtain ⟨b1,o1,v1,e1,hb1,hv1,hc1⟩:=hxa.get hlt
     obtain ⟨b2,o2,v2,e2,hb2,hv2,hc2⟩:=hya.get hlt
     obtain rfl:v1=v2:=Option.some.inj (hv1.symm.trans hv2)
     have p1:=(hkeep b1 _ hb1).trans hc1
     have p2:=(hkeep b2 _ hb2).trans hc2
     rw [e1] at q4
     rw [e2] at r4
     have hk0:(0:Int)<=(K:Int):=by omega
     have hk1:(K:Int)<(yal:Int):=by omega
     clear hv1 hv2 hc1 hc2 e1 e2 hkeep
     go_wp2_with fail
     go_quiet (fail)
     go_wp2_with fail
     go_roundw
     case rel=>exact ⟨K+1,by omega,by go_num,HREL.out.drewN _⟩
     case measure=>simp [intOf];omega
    ·clear hkeep
     go_wp2_with fail
     clear q0 q1 q2 q3 q4 q5 qf r0 r1 r2 r3 r4 r5 rf
     have HD3:=HREL
     clear HREL
     go_loopw [11] (fun i wr=>∃ K:Nat,K<=ykl/\i=.int .i64 K/\DeepRel w pb (L-1-T.nodesL (l.take K)) ⟨yk,yt,yn,xsa,ysl,xsc,xaa,yal,xac,xka,ykl,xkc⟩ ⟨yk,yt,yn,ysa,ysl,ysc,yaa,yal,yac,yka,ykl,ykc⟩ wr) (fun i _=>ykl-(intOf i).toNat)
     case atStart=>exact ⟨0,Nat.zero_le _,rfl,by simpa [T.nodesL] using HD3.out⟩
     case round=>
      obtain ⟨K,hK,rfl,hrel⟩:=hrel
      have HREL:=hid hrel
      obtain ⟨q0,q1,q2,q3,q4,q5,qf⟩:=hrel.bx
      obtain ⟨r0,r1,r2,r3,r4,r5,rf⟩:=hrel.by_
      simp only at q0 q1 q2 q3 q4 q5 r0 r1 r2 r3 r4 r5
      have hkeep:=hrel.t.keeps hpb0 (by omega)
      have hct:=hrel.t.cell
      have hfr:=hrel.t.free
      have hlp:pb<wr.heap.size:=World.block_lt_of_cell? _ _ hct
      clear hrel
      by_cases hlt:K<ykl
      ·have hKl:K<l.length:=by rw [<-HXL.out];exact hlt
       have hu:l[K]? =some l[K]:=List.getElem?_eq_getElem hKl
       obtain ⟨b1,o1,y1,e1,hb1,hat1,hr1⟩:=HX.out.kid (t:=T.mk yk yt yn sh a l) (j:=K) hu
       obtain ⟨b2,o2,y2,e2,hb2,hat2,hr2⟩:=HY.out.kid (t:=T.mk yk yt yn sh a l) (j:=K) hu
       have hn1:=T.nodes_mem (List.getElem_mem hKl)
       have hh1:=T.height_mem (List.getElem_mem hKl)
       have HTK:=hid (nodesL_take hu)
       have hnt:=nodesL_take_le l (K+1)
       rw [HTK.out] at hnt
       have HC:=hid (HIH.out l[K] (List.getElem_mem hKl) y1 y2 B wr.drew pb (down-1) (L-1-T.nodesL (l.take K)) (Rep.keep (w':=wr.drew) (show Keeps B w wr.drew from hkeep) _ _ hr1) (Rep.keep (w':=wr.drew) (show Keeps B w wr.drew from hkeep) _ _ hr2) hpb0 hlp hct hfr (by have:=HHT.out;omega) (by omega) (by have:=HND.out;omega) (by omega))
       obtain ⟨p0,p1,p2,p3,p4,p5⟩:=hat1.keep hb1 hkeep
       obtain ⟨s0,s1,s2,s3,s4,s5⟩:=hat2.keep hb2 hkeep
       simp only at e1 e2
       rw [e1] at q5
       rw [e2] at r5
       have hk0:(0:Int)<=(K:Int):=by omega
       have hk1:(K:Int)<(ykl:Int):=by omega
       simp only [TV.val,TV.cells] at HC
       clear hkeep hct hfr hat1 hat2 hr1 hr2 e1 e2 hu hn1 hh1 hnt
       go_wp2_with fail
       refine still_tail 13 (by kernel_rfl) (by kernel_rfl) ?_
       simp only [List.take_succ_cons,List.take_zero,List.drop_succ_cons,List.drop_zero]
       repeat still_step
       refine wpStill_nil ?_
       go_wp2_with (go_at_call 33;(with_reducible refine HC.out.mono ?_);rintro e w2 ⟨rfl,ht2⟩)
       have HST:=hid (HREL.out.step ht2 hpb)
       clear ht2 q0 q1 q2 q3 q4 q5 qf r0 r1 r2 r3 r4 r5 rf p0 p1 p2 p3 p4 p5 s0 s1 s2 s3 s4 s5
       go_wp2_with fail
       go_roundw
       case rel=>exact ⟨K+1,by omega,by go_num,by
        rw [HTK.out]
        have h:=HST.out
        rw [show L-1-((T.nodesL (l.take K)+l[K].nodes:Nat):Int)=L-1-(T.nodesL (l.take K):Int)-(l[K].nodes:Int) by omega]
        exact h⟩
       case measure=>simp [intOf];omega
      ·clear hkeep hct hfr
       go_wp2_with fail
       go_ret
       refine ⟨rfl,?_⟩
       have h:=HREL.out.t
       rw [List.take_of_length_le (by rw [<-HXL.out];omega)] at h
       rw [HN1.out,show L-((1+T.nodesL l:Nat):Int)=L-1-(T.nodesL l:Int) by omega]
       exact h
def EqPost (w:World) (e:Ending) (w':World):Prop:=e=.returned (.bool true)/\Below w.heap.size w w'
theorem Ticks.below {w w0 w':World} {pb:Nat} {L:Int} (h:Ticks w0 pb L w') (hb:Below w.heap.size w w0) (hp:w.heap.size<=pb):Below w.heap.size w w':=
 hb.grown h.grown hb.size (fun g e=>by cases e;exact hp)
theorem one_new (w:World) (v:Value) (ty:TypeId):(w.alloc (.cells #[v] ty)).cell? ⟨w.heap.size,0,none⟩=some v/\(w.alloc (.cells #[v] ty)).frozen? ⟨w.heap.size,0,none⟩=false/\w.heap.size<(w.alloc (.cells #[v] ty)).heap.size:=by simp
set_option maxRecDepth 100000 in
set_option maxHeartbeats 1000000 in
theorem eq_calls (t:T) (x y:TV) (w:World) (hx:Rep w w.heap.size t x) (hy:Rep w w.heap.size t y) (hf:t.fits):
 Calls Tryz.prog 12 #[x.val,y.val] w (EqPost w):=by
 have hb0:Below w.heap.size w (((w.alloc (.cells x.cells 34)).alloc (.cells y.cells 34)).alloc (.cells #[.int .i64 4096] 3)):=by go_grown
 have hn:=hf.1
 have hh:=hf.2
 obtain ⟨o1,o2,o3⟩:=one_new ((w.alloc (.cells x.cells 34)).alloc (.cells y.cells 34)) (.int .i64 4096) 3
 rw [World.size_alloc,World.size_alloc] at o1 o2 o3
 have HC:=hid (deep_all t x y w.heap.size (((w.alloc (.cells x.cells 34)).alloc (.cells y.cells 34)).alloc (.cells #[.int .i64 4096] 3)) (w.heap.size+1+1) 255 4096 (hx.below hb0 (Nat.le_refl _)) (hy.below hb0 (Nat.le_refl _)) (by omega) o3 o1 o2 (by omega) (by omega) (by omega) (by omega))
 have HB:=hid hb0
 simp only [TV.val,TV.cells] at HC ⊢
 simp only [TV.cells] at HB
 clear hx hy hf hn hh hb0 o1 o2 o3
 go_enter Tryz.func12,Tryz.ntmps12
 go_wp2_with fail
 (with_reducible refine HC.out.mono ?_)
 rintro e w1 ⟨rfl,ht⟩
 have HT:=hid ht
 clear ht
 go_wp2_with fail
 go_ret
 exact ⟨rfl,HT.out.below HB.out (by omega)⟩
namespace Pz
def noT:T:=.mk 0 ⟨#[]⟩ 0 [] [] []
theorem own_no (w:World):Own w noT zeroTV []:=by
 unfold noT
 simp only [Own]
 refine ⟨⟨by decide,by decide,by decide,by decide,by show (0:Nat)<=_;omega,by decide,by decide,by decide,by decide,by decide,by decide,Nat.zero_le _,Nat.zero_le _,Nat.zero_le _⟩,rfl,rfl,rfl,rfl,[],[],[],[],rfl,⟨rfl,.inl ⟨rfl,rfl,rfl⟩,fun b hb=>by cases hb⟩,⟨rfl,.inl ⟨rfl,rfl,rfl⟩,fun b hb=>by cases hb⟩,.inl ⟨rfl,rfl,rfl⟩,?_⟩
 simp only [OwnL]
end Pz
open Go.RowKit
namespace Pz
structure VS (S:ByteArray) (cl:Int) (W:World) (y:TV) (p c:Int):Prop where
 pos:0<=p/\p<=S.size
 res:(c=0/\p=0/\∃ t G,Own W t y G/\T.may t cl=0/\read (bl S) cl=.ok t)\/(c≠0/\y=zeroTV)
theorem VS.later {S:ByteArray} {cl:Int} {W W':World} {y:TV} {p c:Int} (h:VS S cl W y p c) (hb:Below W.heap.size W W'):VS S cl W' y p c:=
 ⟨h.pos,h.res.imp (fun ⟨h1,h2,t,G,h3,h4⟩=>⟨h1,h2,t,G,Own.later' h3 hb,h4⟩) id⟩
inductive LR (W:World) (k:Int) (nm:ByteArray) (y:TV) (A:Option Addr) (m cap:Nat) (p c:Int):Prop where
 |wrong (h:c≠0) (h1:k=0) (h2:nm=⟨#[]⟩) (h3:y=zeroTV) (h4:A=none) (h5:m=0) (h6:cap=0)
 |none (h:c=0) (hp:p=0) (h1:k=0) (h2:nm=⟨#[]⟩) (h3:y=zeroTV) (h4:A=none) (h5:m=0) (h6:cap=0)
 |noun (h:c=0) (hp:p=0) (h1:k=1) (h2:nm=⟨#[]⟩) (h3:∃ t G,Own W t y G/\T.may t 1=0)
 |named2 (h:c=0) (hp:p=0) (h1:k=2) (h2:nm.toList.isEmpty=false) (h3:∃ t G,Own W t y G/\T.may t 1=0)
 |named3 (h:c=0) (hp:p=0) (h1:k=3) (h2:nm.toList.isEmpty=false) (h3:∃ t G,Own W t y G/\T.may t 3=0)
 |request (h:c=0) (hp:p=0) (h1:k=4) (h2:nm.toList.isEmpty=false) (h3:y=zeroTV) (h4:m<2)
theorem LR.later {W W':World} {k:Int} {nm:ByteArray} {y:TV} {A:Option Addr} {m cap:Nat} {p c:Int} (h:LR W k nm y A m cap p c) (hb:Below W.heap.size W W'):LR W' k nm y A m cap p c:=by
 cases h with
 |wrong h h1 h2 h3 h4 h5 h6=>exact .wrong h h1 h2 h3 h4 h5 h6
 |none h hp h1 h2 h3 h4 h5 h6=>exact .none h hp h1 h2 h3 h4 h5 h6
 |noun h hp h1 h2 h3=>obtain ⟨t,G,hO,hm⟩:=h3;exact .noun h hp h1 h2 ⟨t,G,Own.later' hO hb,hm⟩
 |named2 h hp h1 h2 h3=>obtain ⟨t,G,hO,hm⟩:=h3;exact .named2 h hp h1 h2 ⟨t,G,Own.later' hO hb,hm⟩
 |named3 h hp h1 h2 h3=>obtain ⟨t,G,hO,hm⟩:=h3;exact .named3 h hp h1 h2 ⟨t,G,Own.later' hO hb,hm⟩
 |request h hp h1 h2 h3 h4=>exact .request h hp h1 h2 h3 h4
end Pz
end Go.Proofs.YtpfkhdlnjefikaaGreatDoor
