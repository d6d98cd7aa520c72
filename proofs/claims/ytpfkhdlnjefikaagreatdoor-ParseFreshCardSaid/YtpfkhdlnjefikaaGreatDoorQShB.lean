/- The law's Shelf: Keep. The law's Shelf: Ends. -/
import Derived.Test.YtpfkhdlnjefikaaGreatDoorQShA
set_option linter.unusedVariables false
set_option linter.unusedSimpArgs false
namespace Go.Proofs.YtpfkhdlnjefikaaGreatDoor
open Go.RowKit
theorem SPush.mono {a b:World} {ps:Nat} {va vw va' vw':Value} {Y Z:List TV} {ts us:List T} {N:Nat} {F F':List Nat} {S S':Nat->Prop} {Fy Fz:List Nat} (h:SPush a b ps va vw va' vw' Y Z ts us N F F' S S' Fy) (hs:∀ b∈Fy,b∈Fz):SPush a b ps va vw va' vw' Y Z ts us N F F' S S' Fz:=
 ⟨h.shelf,h.out,h.desk,fun g hg=>(h.new g hg).imp id (fun h=>h.imp (hs g) id)⟩
theorem SPush.refl {w:World} {ps:Nat} {va vw:Value} {Y Z:List TV} {ts us:List T} {N:Nat} {F:List Nat} {S:Nat->Prop} (h:ShelfG w ps va vw Y Z ts us N F S) (Fy:List Nat):SPush w w ps va vw va vw Y Z ts us N F F S S Fy:=
 ⟨h,Outside.refl _ _,fun _ h=>.inl h,fun _ h=>.inl h⟩
theorem modify_comm {α:Type} (h:Array α) (a b:Nat) (f g:α->α) (hab:a≠b):(h.modify a f).modify b g=(h.modify b g).modify a f:=by
 apply Array.ext_getElem?
 intro i
 simp only [Array.getElem?_modify]
 by_cases h1:a=i
 ·by_cases h2:b=i
  ·exact absurd (h1.trans h2.symm) hab
  ·simp [h1,h2]
 ·by_cases h2:b=i
  ·simp [h1,h2]
  ·simp [h1,h2]
theorem setCell_comm (w:World) (a b:Addr) (u v:Value) (hab:a.block≠b.block):(w.setCell a u).setCell b v=(w.setCell b v).setCell a u:=by
 unfold World.setCell
 simp only
 rw [modify_comm _ _ _ _ _ hab]
theorem set6_comm (w:World) {ps g:Nat} (h:ps≠g) (o m:Nat) (s v0 v1 v2 v3 v4 v5:Value):
 ((((((((w.setCell ⟨ps,o,none⟩ s).setCell ⟨g,m,none⟩ v0).setCell ⟨g,m+1,none⟩ v1).setCell ⟨g,m+2,none⟩ v2).setCell ⟨g,m+3,none⟩ v3).setCell ⟨g,m+4,none⟩ v4).setCell ⟨g,m+5,none⟩ v5))=
   ((((((w.setCell ⟨g,m,none⟩ v0).setCell ⟨g,m+1,none⟩ v1).setCell ⟨g,m+2,none⟩ v2).setCell ⟨g,m+3,none⟩ v3).setCell ⟨g,m+4,none⟩ v4).setCell ⟨g,m+5,none⟩ v5).setCell ⟨ps,o,none⟩ s:=by
 rw [setCell_comm w ⟨ps,o,none⟩ ⟨g,m,none⟩ _ _ h,setCell_comm _ ⟨ps,o,none⟩ ⟨g,m+1,none⟩ _ _ h,setCell_comm _ ⟨ps,o,none⟩ ⟨g,m+2,none⟩ _ _ h,setCell_comm _ ⟨ps,o,none⟩ ⟨g,m+3,none⟩ _ _ h,setCell_comm _ ⟨ps,o,none⟩ ⟨g,m+4,none⟩ _ _ h,setCell_comm _ ⟨ps,o,none⟩ ⟨g,m+5,none⟩ _ _ h]
theorem all_facts {w wb w5:World} {ps m g cap:Nat} {va vw v:Value} {Y Z X:List TV} {ts us:List T} {N:Nat} {F:List Nat} {S:Nat->Prop} (h:ShelfG w ps va vw Y Z ts us N F S) (hl:X.length=m) (hb:Below w.heap.size w wb)
 (hown:w5.ownsRow 0 34 6 (.slice (some ⟨g,0,none⟩) (m+1) cap) (m+1) (rowCells X++zeroTV.cells.toList)) (hg:wb.grownBy w5 v.ownBlock) (hv:v.ownBlock=va.ownBlock\/v.ownBlock=vw.ownBlock) (hat:v.ownBlock=some g\/g=wb.heap.size):
 g≠ps/\ps≠g/\w5.cell? ⟨ps,0,none⟩=some va/\w5.cell? ⟨ps,1,none⟩=some vw/\(∀ o,w5.frozen? ⟨ps,o,none⟩=false)/\At w5 g (m*6) zeroTV/\∀ o,w5.frozen? ⟨g,o,none⟩=false:=by
 obtain ⟨n1,n2,n3,n4⟩:=nodupT.1 h.nodup
 have hp:ps<w.heap.size:=h.lt ps (by simp [deskT])
 have hbz:=hb.size
 have hvp:v.ownBlock≠some ps:=fun e=>by
  rcases hv with e'|e'
  ·exact (n1 ps (e'▸e)).1 rfl
  ·exact (n2 ps (e'▸e)).1 rfl
 have hk:w5.heap[ps]? =w.heap[ps]? :=(hg.block ps (by omega) (fun e=>hvp e.symm)).trans (hb.block ps hp)
 have hgp:g≠ps:=by
  rcases hat with e|e
  ·exact fun e'=>hvp (e'▸e)
  ·omega
 have hrow:=row_at (ys:=X++[zeroTV]) (by rw [rowCells_snoc];exact hown)
 exact ⟨hgp,hgp.symm,(cell_of_heap hk).trans h.c0,(cell_of_heap hk).trans h.c1,fun o=>(World.frozen?_of_block (a:=⟨ps,o,none⟩) hk).trans (h.f o),hrow.2.2 m zeroTV (by rw [List.getElem?_append_right (by omega),hl];simp),fun o=>hown.frozenAt o⟩
def Held_rk (W:World) (ps bt o:Nat) (v:Value) (x:TV):Prop:=
 W.cell? ⟨ps,1,none⟩=some v/\W.frozen? ⟨ps,1,none⟩=false/\W.cell? ⟨bt,o,none⟩=some (.int .i64 x.kind)/\W.cell? ⟨bt,o+1,none⟩=some (.string x.text)/\W.cell? ⟨bt,o+2,none⟩=some (.int .i64 x.n)/\W.cell? ⟨bt,o+3,none⟩=some (.slice x.sa x.sl x.sc)/\W.cell? ⟨bt,o+4,none⟩=some (.slice x.aa x.al x.ac)/\W.cell? ⟨bt,o+5,none⟩=some (.slice x.ka x.kl x.kc)
theorem Held_rk.later {w W:World} {ps bt o:Nat} {v:Value} {x:TV} (h:Held_rk w ps bt o v x) (hb:Below w.heap.size w W) (hp:ps<w.heap.size) (ht:bt<w.heap.size):Held_rk W ps bt o v x:=by
 have k1:∀ o,W.cell? ⟨ps,o,none⟩=w.cell? ⟨ps,o,none⟩:=fun o=>cell_of_heap (hb.block ps hp)
 have k2:∀ o,W.cell? ⟨bt,o,none⟩=w.cell? ⟨bt,o,none⟩:=fun o=>cell_of_heap (hb.block bt ht)
 obtain ⟨a0,a1,b0,b1,b2,b3,b4,b5⟩:=h
 exact ⟨(k1 _).trans a0,(World.frozen?_of_block (a:=⟨ps,1,none⟩) (hb.block ps hp)).trans a1,(k2 _).trans b0,(k2 _).trans b1,(k2 _).trans b2,(k2 _).trans b3,(k2 _).trans b4,(k2 _).trans b5⟩
theorem rk_reads {W w8:World} {lo:Nat} {u:T} {z:TV} (h:RepS w8 (Adds NoS W w8) u z) (hz:lo<=W.heap.size):RepS w8 (fun b=>lo<=b/\b<w8.heap.size) u z:=
 h.mono (fun b hb=>by
  rcases hb with hb|hb
  ·exact hb.elim
  ·exact ⟨Nat.le_trans hz hb.1,hb.2⟩)
theorem rk_news {W w8:World} (hb:Below (W.alloc (.cells zeroTV.cells 34)).heap.size (W.alloc (.cells zeroTV.cells 34)) w8):∀ j u,zeroTV.cells.toList[j]? =some u->w8.cell? ((⟨W.heap.size,0,none⟩:Addr).add j)=some u:=by
 intro j u hu
 have h:=row_new W zeroTV.cells 34 j u hu
 exact (hb.cell (p:=(⟨W.heap.size,0,none⟩:Addr).add j) (World.block_lt_of_cell? _ _ h)).trans h
theorem same_world {B:Nat} {w7 wb w9:World} {row:Option Nat} (_:wb.grownBy w9 row) (h:Below B w7 wb):Below B w7 wb:=h
theorem rk_at {wb w8 w9:World} {row:Option Nat} {lo:Nat} {u:T} {z:TV} (_:wb.grownBy w9 row) (hb:Below w8.heap.size w8 wb) (h:RepS w8 (fun b=>lo<=b/\b<w8.heap.size) u z):
 RepS wb (fun b=>lo<=b/\b<w8.heap.size) u z/\∀ b,(lo<=b/\b<w8.heap.size)->lo<=b/\b<wb.heap.size:=
 ⟨h.below hb (fun _ hb=>hb.2),fun _ h=>⟨h.1,Nat.lt_of_lt_of_le h.2 hb.size⟩⟩
def taken (Fy Fz:List Nat) (I:Nat):List Nat:=if I=0 then [] else if I=1 then Fy else Fy++Fz
structure KRel (w wr:World) (ps:Nat) (va vw:Value) (F:List Nat) (S:Nat->Prop) (Fy Fz:List Nat) (I:Nat) (N:Nat):Prop where
 ex:∃ va' vw' Y Z ts F' S',SPush w wr ps va vw va' vw' Y Z ts ts N F F' S S' (taken Fy Fz I)/\ts.length<=N
 top:N<=40000
theorem KRel.below {w wr W:World} {ps:Nat} {va vw:Value} {F:List Nat} {S:Nat->Prop} {Fy Fz:List Nat} {I N:Nat} (h:KRel w wr ps va vw F S Fy Fz I N) (hb:Below wr.heap.size wr W):KRel w W ps va vw F S Fy Fz I N:=by
 obtain ⟨⟨va',vw',Y,Z,ts,F',S',h1,h2⟩,h3⟩:=h
 exact ⟨⟨va',vw',Y,Z,ts,F',S',⟨h1.shelf.below hb,h1.out.trans (Outside.of_below hb),h1.desk,h1.new⟩,h2⟩,h3⟩
theorem taken_sub (Fy Fz:List Nat) {I:Nat} (hI:I<2):∀ b∈taken Fy Fz I,b∈taken Fy Fz (I+1):=by
 intro b hb
 unfold taken at hb ⊢
 match I,hI with
 |0,_=>simp at hb
 |1,_=>simp at hb ⊢;exact .inl hb
theorem pick_two {w:World} {u:T} {y z:TV} {Fy Fz:List Nat} {bt:Nat} (oy:Own w u y Fy) (oz:Own w u z Fz) (hN:(Fy++Fz).Nodup) (a0:At w bt 0 y) (a1:At w bt 6 z) {I:Nat} (hI:I<2):
 ∃ x Fx,At w bt (I*6) x/\Own w u x Fx/\Fx.Nodup/\(∀ b∈Fx,b∈Fy++Fz)/\(∀ b∈Fx,b ∉ taken Fy Fz I)/\∀ b∈Fx,b∈taken Fy Fz (I+1):=by
 have hn:=List.nodup_append.1 hN
 match I,hI with
 |0,_=>exact ⟨y,Fy,a0,oy,hn.1,fun b hb=>by simp [hb],fun b _=>by simp [taken],fun b hb=>by simp [taken,hb]⟩
 |1,_=>exact ⟨z,Fz,a1,oz,hn.2.1,fun b hb=>by simp [hb],fun b hb hm=>hn.2.2 b (by simpa [taken] using hm) b hb rfl,fun b hb=>by simp [taken,hb]⟩
set_option maxRecDepth 100000 in
set_option maxHeartbeats 8000000 in
theorem keep_calls (u:T) (y z:TV) (Fy Fz:List Nat) (w:World) (ps bt:Nat) (H:Nat->Prop) (hS:ShelfS w ps H) (oy:Own w u y Fy) (oz:Own w u z Fz) (hN:(Fy++Fz).Nodup) (hF:∀ b∈Fy++Fz,b<w.heap.size/\¬H b) (a0:At w bt 0 y) (a1:At w bt 6 z) (hbt:¬H bt) (hbl:bt<w.heap.size) (hfit:u.fits) (n2:Nat) (h2:n2=2):
 Calls Tryz.prog 15 #[.pointer (some ⟨ps,0,none⟩),.slice (some ⟨bt,0,none⟩) n2 n2] w (KeepPost w ps H (Fy++Fz)):=by
 obtain ⟨va,vw,Y,Z,ts,N,F,S,hsh,hcnt,htop,hH,hHlt⟩:=hS
 have hdl:=hsh.lt
 have hdH:∀ b∈deskT ps va vw,H b:=fun b hb=>hH b (.inl (List.mem_append_left _ hb))
 have K0:=hid (show KRel w w ps va vw F S Fy Fz 0 N from ⟨⟨va,vw,Y,Z,ts,F,S,SPush.refl hsh _,hcnt⟩,htop⟩)
 have HP:=hid (fun (I:Nat) (hI:I<2)=>pick_two oy oz hN a0 a1 hI)
 have hpost:∀ (wr:World) (I N:Nat),I<=2->KRel w wr ps va vw F S Fy Fz I N->KeepPost w ps H (Fy++Fz) (.returned (.tuple #[])) wr:=by
  intro wr I N' hI h
  obtain ⟨⟨va',vw',Y',Z',ts',F',S',h1,h2⟩,h3⟩:=h
  have hn:∀ b,b∈deskT ps va' vw'++F'\/S' b->H b\/b∈Fy++Fz\/w.heap.size<=b:=fun b hb=>by
   rcases h1.new b hb with h|h|h
   ·exact .inl (hH b h)
   ·refine .inr (.inl ?_)
    unfold taken at h
    split at h
    ·cases h
    ·split at h
     ·simp [h]
     ·exact h
   ·exact .inr (.inr h)
  refine ⟨rfl,fun b=>(b∈deskT ps va' vw'++F'\/S' b),deskT ps va vw,⟨va',vw',Y',Z',ts',N',F',S',h1.shelf,h2,h3,fun _ h=>h,h1.shelf.all_lt⟩,hn,hdH,h1.out⟩
 have HPOST:=hid hpost
 have H2:=hid h2
 have hn2:n2<=1099511627776:=by omega
 have HFH:=hid hF
 have HDH:=hid hdH
 have HH:=hid hH
 clear hsh hH oy oz hN a0 a1 hpost hF hdl hdH hHlt h2
 go_enter Tryz.func15,Tryz.ntmps15
 go_wp2_with fail
 go_loopw [4] (fun i wr=>∃ I N:Nat,I<=n2/\i=.int .i64 I/\KRel w wr ps va vw F S Fy Fz I N) (fun i _=>n2-(intOf i).toNat)
 case atStart=>exact ⟨0,N,Nat.zero_le _,rfl,K0.out⟩
 case round=>
  obtain ⟨I,N1,hI,rfl,hrel⟩:=hrel
  have HR:=hid hrel
  obtain ⟨⟨va1,vw1,Y1,Z1,ts1,F1,S1,hp,hcnt1⟩,htop1⟩:=hrel
  obtain ⟨s1,hs1⟩:∃ s1:Int,s1=(N1:Int):=⟨_,rfl⟩
  have k2:=hp.shelf.c2
  rw [<-hs1] at k2
  have HS1:=hid hs1
  rcases (show (I<n2/\s1<32768)\/(¬I<n2\/(I<n2/\¬s1<32768)) from by omega) with ⟨h1,h2⟩|hexit
  ·obtain ⟨x,Fx,hat,hown,hnx,hin,hnot,hsub⟩:=HP.out I (by have:=H2.out;omega)
   have hz:=hp.out.size
   have hbt':bt ∉ deskT ps va vw:=fun hm=>hbt (HDH.out bt hm)
   have hatr:At wr bt (I*6) x:=hat.kept (hp.out.block bt hbl hbt')
   have hownr:Own wr u x Fx:=Own.kept _ _ _ hown (fun b hb=>hp.out.block b (HFH.out b (hin b hb)).1 (fun hm=>(HFH.out b (hin b hb)).2 (HDH.out b hm)))
   have hFxr:∀ b∈Fx,b<wr.heap.size/\¬(b∈deskT ps va1 vw1++F1\/S1 b):=fun b hb=>by
    have hb1:=HFH.out b (hin b hb)
    refine ⟨by omega,fun hm=>?_⟩
    rcases hp.new b hm with h|h|h
    ·exact hb1.2 (HH.out b h)
    ·exact hnot b hb h
    ·omega
   have hrep:Rep wr wr.heap.size u x:=hownr.rep _ _ _ (fun b hb=>(hFxr b hb).1)
   have HLI:=hid (fun (W:World) (h:Below wr.heap.size wr W)=>light_calls u x wr.heap.size W (hrep.below h (Nat.le_refl _)) h.size)
   have HSZ:=hid (fun (W:World) (h:Below wr.heap.size wr W)=>size_later hrep (Nat.le_refl _) h)
   have HAT:=hid hatr
   have HOWN:=hid hownr
   have HFX:=hid hFxr
   have HSUB:=hid hsub
   have HNX:=hid hnx
   have HREP:=hid hrep
   have HPU:=hid hp
   have HCN:=hid hcnt1
   have i0:(0:Int)<=(I:Int):=by omega
   have i1:(I:Int)<(n2:Int):=by omega
   have hbr:bt<wr.heap.size:=by omega
   have hnum:u.sizeN=u.nodes:=by rw [T.sizeN,if_pos hfit]
   have hn0:=hfit.1
   have hn1:=T.nodes_pos u
   obtain ⟨q0,q1,q2,q3,q4,q5⟩:=hatr
   simp only [TV.val,TV.cells] at HLI
   clear hat hown hnx hin hnot hsub hownr hFxr hrep hp hs1 hcnt1 htop1
   go_wp2_with fail
   refine (HLI.out _ (Below.refl _ _)).mono ?_
   rintro e w4 ⟨light,rfl,hlight,hb4⟩
   have HB4:=hid hb4
   clear hlight hb4 q0 q1 q2 q3 q4 q5 k2
   cases light
   ·dsimp only
    go_wp2_with fail
    go_roundw
    case rel=>
     refine ⟨I+1,N1,by omega,by go_num,?_⟩
     obtain ⟨⟨va',vw',Y,Z,ts,F',S',g1,g2⟩,g3⟩:=HR.out.below HB4.out
     exact ⟨⟨va',vw',Y,Z,ts,F',S',g1.mono (taken_sub Fy Fz (by have:=H2.out;omega)),g2⟩,g3⟩
    case measure=>simp [intOf];omega
   ·dsimp only
    obtain ⟨q0,q1,q2,q3,q4,q5⟩:=HAT.out.kept (HB4.out.block bt hbr)
    go_wp2_with fail
    refine (HSZ.out _ HB4.out).mono ?_
    rintro e w5 ⟨rfl,hb5⟩
    rw [hnum]
    have HB5:=hid (HB4.out.trans (hb5.mono HB4.out.size))
    clear hb5 q0 q1 q2 q3 q4 q5 HB4
    have hsh5:=HPU.out.shelf.below HB5.out
    have k2:=hsh5.c2
    have kf:=hsh5.f
    rw [<-HS1.out] at k2
    have r1:IntKind.i64.wrap (s1+(u.nodes:Int))=s1+(u.nodes:Int):=by have:=HS1.out;rw [IntKind.wrap_i64];omega
    go_upto_region 6 with fail
    have hcount:=SPush.ahead HB5.out (SPush.count hsh5 (N1+u.nodes) (taken Fy Fz (I+1)))
    have e1:((N1+u.nodes:Nat):Int)=s1+(u.nodes:Int):=by have:=HS1.out;omega
    rw [e1] at hcount
    generalize w5.setCell ⟨ps,2,none⟩ (.int .i64 (s1+(u.nodes:Int)))=w6 at hcount ⊢
    have HC6:=hid hcount
    obtain ⟨pA,cA,eA,hcA⟩:=ownsRow_form hcount.shelf.r0
    obtain ⟨pW,cW,eW,hcW⟩:=ownsRow_form hcount.shelf.r1
    obtain ⟨m,hm⟩:∃ m,m=Y1.length:=⟨_,rfl⟩
    have hly:Y1.length=ts1.length:=hcount.shelf.own.len
    have hlz:Z1.length=ts1.length:=hcount.shelf.len
    rw [<-hm] at eA
    rw [hlz,<-hly,<-hm] at eW
    subst eA
    subst eW
    have hmb:m<=1000000:=by have:=HR.out.top;have:=HCN.out;omega
    have j0:(0:Int)<=(m:Int):=by omega
    have j1:(m:Int)<(m:Int)+1:=by omega
    have HM:=hid hm
    have HLZ:=hid (show Z1.length=m from by omega)
    have c0:=hcount.shelf.c0
    have cf:=hcount.shelf.f
    have hpz:ps<w6.heap.size:=hcount.shelf.lt ps (by simp [deskT])
    have hbz6:bt<w6.heap.size:=Nat.lt_of_lt_of_le hbr hcount.out.size
    have hbd:bt ∉ deskT ps (.slice pA m cA) (.slice pW m cW):=fun hm=>by
     rcases HPU.out.desk bt hm with h|h
     ·exact hbt (HDH.out bt h)
     ·omega
    have HAT6:=hid (HAT.out.kept (hcount.out.block bt hbr hbd))
    obtain ⟨q0,q1,q2,q3,q4,q5⟩:=HAT6.out
    have hbp:¬bt=ps:=fun e=>hbd (by rw [memT];exact .inl e)
    have hpb:¬ps=bt:=fun e=>hbp e.symm
    obtain ⟨m0,hm0,hmz0,hmz1,hmz2⟩:=info_parts info_term0
    have HX6:=hid (show Own w6 u x Fx/\∀ b∈Fx,b<w6.heap.size/\¬(b∈deskT ps (.slice pA m cA) (.slice pW m cW)++F1\/S1 b) from
     ⟨Own.kept _ _ _ HOWN.out (fun b hb=>hcount.out.block b (HFX.out b hb).1 (fun hm=>(HFX.out b hb).2 (.inl (List.mem_append_left _ hm)))),fun b hb=>⟨Nat.lt_of_lt_of_le (HFX.out b hb).1 hcount.out.size,(HFX.out b hb).2⟩⟩)
    have n1':¬ps=w6.heap.size:=by omega
    have n2':¬bt=w6.heap.size:=by omega
    clear hcount hsh5 k2 kf e1 hly hlz hm hbd r1 hcA hcW
    go_cut [] from 43 to 56 (fun wq=>∃ g cap,SPush w6 wq ps (.slice pA m cA) (.slice pW m cW) (.slice (some ⟨g,0,none⟩) (m+1) cap) (.slice pW m cW) (Y1++[x]) Z1 (ts1++[u]) ts1 (N1+u.nodes) F1 (F1++Fx) S1 S1 Fx)
    case first=>
     go_region_law (first
      |(refine step_append_lies _ (by rfl) _ _ 32 (by rfl) 0 34 m0 _ 6 104 Tryz.underlying32 hm0 hmz0 hmz1 hmz2 (by rfl) (by decide) (.slice pA m cA) m (rowCells Y1) (by rfl) ((by have:=HC6.out.shelf.r0;rwa [<-HM.out] at this:w6.ownsRow 0 34 6 (.slice pA m cA) m (rowCells Y1)).kept (grown_of_below (by go_grown) none) (Classical.em _)) ⟨w6.heap.size,0,none⟩ 1 1 zeroTV.cells.toList (by rfl) (by rfl) (row_new w6 zeroTV.cells _) (cells_one _) (by omega) (by unfold maxLen;omega) (by omega) (Nat.zero_le _) _ rfl ?_;intro g cap w7 hown hgrow hat hlt5;obtain ⟨g1,g2,g3,g4,g5,⟨z0,z1,z2,z3,z4,z5⟩,zf⟩:=all_facts HC6.out.shelf HM.out.symm (by go_grown:Below w6.heap.size w6 _) hown hgrow (.inl rfl) hat;simp only [zeroTV] at z0 z1 z2 z3 z4 z5))
     all_goals
      have HRES:=hid (SPush.all HC6.out.shelf HM.out.symm (by go_grown:Below w6.heap.size w6 _) (rows_put (y:=x) HM.out.symm hown) (grown_put hgrow hat _ _ _ _ _ _) hat HX6.out.1 HNX.out HX6.out.2 hfit)
      go_wp2_with fail
      go_meet
      case rel=>first|(with_reducible exact ⟨g,cap,HRES.out⟩)|(rw [set6_comm _ g2];with_reducible exact ⟨g,cap,HRES.out⟩)
    case rest=>
    obtain ⟨g,cap,hsp⟩:=hcut
    have HS7:=hid hsp
    generalize wc=w7 at hsp HS7 ⊢
    have c0:=hsp.shelf.c1
    have cf:=hsp.shelf.f
    have hpz7:ps<w7.heap.size:=hsp.shelf.lt ps (by simp [deskT])
    have hz67:=hsp.out.size
    have hbz7:bt<w7.heap.size:=by omega
    have hbd:bt ∉ deskT ps (.slice pA m cA) (.slice pW m cW):=fun hm=>by
     rcases HPU.out.desk bt (by rw [memT] at hm ⊢;exact hm) with h|h
     ·exact hbt (HDH.out bt h)
     ·omega
    have HAT7:=hid (HAT6.out.kept (hsp.out.block bt hbz6 hbd))
    obtain ⟨q0,q1,q2,q3,q4,q5⟩:=HAT7.out
    have hrep7:Rep w7 w7.heap.size u x:=(Own.kept _ _ _ HX6.out.1 (fun b hb=>hsp.out.block b (HX6.out.2 b hb).1 (fun hm=>(HX6.out.2 b hb).2 (.inl (List.mem_append_left _ hm))))).rep _ _ _ (fun b hb=>by have:=(HX6.out.2 b hb).1;omega)
    have HOW:=hid (fun (W:World) (h:Below w7.heap.size w7 W)=>own_law u hn0 x w7.heap.size W (hrep7.below h (Nat.le_refl _)) h.size)
    have S0:=hid (show Held_rk w7 ps bt (I*6) (.slice pW m cW) x from ⟨c0,cf 1,q0,q1,q2,q3,q4,q5⟩)
    have n3':¬ps=w7.heap.size:=by omega
    have n4':¬bt=w7.heap.size:=by omega
    have n5':¬w7.heap.size=ps:=by omega
    have n6':¬w7.heap.size=bt:=by omega
    simp only [TV.val,TV.cells] at HOW
    clear hsp hbd hrep7 cf
    go_upto_region 7 with fail
    go_region_law (first
     |(refine step_append_lies _ (by rfl) _ _ 32 (by rfl) 0 34 m0 _ 6 104 Tryz.underlying32 hm0 hmz0 hmz1 hmz2 (by rfl) (by decide) (.slice pW m cW) m (rowCells Z1) (by rfl) ((by have:=HS7.out.shelf.r1;rwa [HLZ.out] at this:w7.ownsRow 0 34 6 (.slice pW m cW) m (rowCells Z1)).kept (grown_of_below HB8.out none) (Classical.em _)) ⟨w7.heap.size,0,none⟩ 1 1 zeroTV.cells.toList (by rfl) (by rfl) (HNW.out) (cells_one _) (by omega) (by unfold maxLen;omega) (by omega) (Nat.zero_le _) _ rfl ?_;intro gw capw w9 hown hgrow hat hlt9;have HBW:=hid (same_world hgrow HB8.out);have HZW:=hid (rk_at hgrow (Below.refl _ _) HR8.out);obtain ⟨g1,g2,_,g4,g5,⟨z0,z1,z2,z3,z4,z5⟩,zf⟩:=all_facts HS7.out.shelf HLZ.out HBW.out hown hgrow (.inr rfl) hat;simp only [zeroTV] at z0 z1 z2 z3 z4 z5)
     |(refine step_append_lies _ (by rfl) _ _ 32 (by rfl) 0 34 m0 _ 6 104 Tryz.underlying32 hm0 hmz0 hmz1 hmz2 (by rfl) (by decide) (.slice pW m cW) m (rowCells Z1) (by rfl) ((by have:=HS7.out.shelf.r1;rwa [HLZ.out] at this:w7.ownsRow 0 34 6 (.slice pW m cW) m (rowCells Z1)).kept (grown_of_below (HB8.out.alloc HB8.out.size _) none) (Classical.em _)) ⟨w8.heap.size,0,none⟩ 1 1 zeroTV.cells.toList (by rfl) (by rfl) (row_new w8 zeroTV.cells _) (cells_one _) (by omega) (by unfold maxLen;omega) (by omega) (Nat.zero_le _) _ rfl ?_;intro gw capw w9 hown hgrow hat hlt9;have HBW:=hid (same_world hgrow (HB8.out.alloc HB8.out.size _));have HZW:=hid (rk_at hgrow ((Below.refl _ _).alloc (Nat.le_refl _) _) HR8.out);obtain ⟨g1,g2,_,g4,g5,⟨z0,z1,z2,z3,z4,z5⟩,zf⟩:=all_facts HS7.out.shelf HLZ.out HBW.out hown hgrow (.inr rfl) hat;simp only [zeroTV] at z0 z1 z2 z3 z4 z5)
     |(go_simp;go_at_call 36;(with_reducible refine (HOW.out _ (by first|exact Below.refl _ _|exact (Below.refl _ _).drew|exact (Below.refl _ _).alloc (Nat.le_refl _) _|exact ((Below.refl _ _).alloc (Nat.le_refl _) _).drew|exact (Below.refl _ _).drew.alloc (Nat.le_refl _) _)).mono ?_);rintro e w8 ⟨z,rfl,hr8,hb8⟩;simp only [TV.val,TV.cells];have HB8:=hid (show Below w7.heap.size w7 w8 from by first|exact hb8|exact (Below.refl _ _).drew.trans hb8|exact ((Below.refl _ _).alloc (Nat.le_refl _) _).trans (hb8.mono (by simp only [World.size_alloc];omega))|exact ((Below.refl _ _).alloc (Nat.le_refl _) _).drew.trans (hb8.mono (by simp only [World.size_drew,World.size_alloc];omega))|exact ((Below.refl _ _).drew.alloc (Nat.le_refl _) _).trans (hb8.mono (by simp only [World.size_drew,World.size_alloc];omega)));have S1:=S0.out.later HB8.out hpz7 hbz7;unfold Held_rk at S1;obtain ⟨c0,cf1,q0,q1,q2,q3,q4,q5⟩:=S1;have nz1:ps<w8.heap.size:=Nat.lt_of_lt_of_le hpz7 HB8.out.size;have nz2:¬ps=w8.heap.size:=(by omega);have nz3:¬w8.heap.size=ps:=(by omega);have HR8:=hid (rk_reads (lo:=w7.heap.size) hr8 (by first|exact Nat.le_refl _|(simp only [World.size_drew,World.size_alloc];omega)));(try have HNW:=hid (rk_news (W:=w7) (by first|exact hb8|exact (Below.refl _ _).drew.trans hb8)));clear hr8 hb8))
    all_goals
     have HRES:=hid (SPush.were (Fy:=taken Fy Fz (I+1)) HS7.out.shelf HLZ.out HBW.out (rows_put (y:=z) HLZ.out hown) (grown_put hgrow hat _ _ _ _ _ _) hat HZW.out.1 HZW.out.2)
     have HFIN:=hid (fun (W:World) (vf:Value) (h:SPush w7 W ps (.slice (some ⟨g,0,none⟩) (m+1) cap) (.slice pW m cW) (.slice (some ⟨g,0,none⟩) (m+1) cap) vf (Y1++[x]) (Z1++[z]) (ts1++[u]) (ts1++[u]) (N1+u.nodes) (F1++Fx) (F1++Fx) S1 (fun b=>S1 b\/(w7.heap.size<=b/\b<w8.heap.size)) (taken Fy Fz (I+1)))=>(show KRel w W ps va vw F S Fy Fz (I+1) (N1+u.nodes) from
      ⟨⟨_,_,_,_,_,_,_,(((HPU.out.mono (taken_sub Fy Fz (by have:=H2.out;omega))).trans HC6.out).trans (HS7.out.mono HSUB.out)).trans h,by have:=HCN.out;simp only [List.length_append,List.length_cons,List.length_nil];omega⟩,by have:=HS1.out;omega⟩))
     go_wp2_with fail
     go_roundw
     case rel=>first|(with_reducible exact ⟨I+1,N1+u.nodes,Nat.succ_le_of_lt h1,by go_num,HFIN.out _ _ HRES.out⟩)|(rw [set6_comm _ g2];with_reducible exact ⟨I+1,N1+u.nodes,Nat.succ_le_of_lt h1,by go_num,HFIN.out _ _ HRES.out⟩)
     case measure=>simp [intOf];omega
  ·rcases hexit with hexit|⟨hexit,hex2⟩
   all_goals
    clear hp hs1 hcnt1 htop1
    go_wp2_with fail
    refine bodyPost_ret (results_none rfl _ _ _) rfl ?_
    exact HPOST.out _ _ _ (by have:=H2.out;omega) HR.out
set_option maxRecDepth 100000 in
set_option maxHeartbeats 2000000 in
theorem ends_calls (w:World) (ps:Nat) (H:Nat->Prop) (hS:ShelfS w ps H):
 Calls Tryz.prog 17 #[.pointer (some ⟨ps,0,none⟩)] w (fun e w'=>∃ D,(∀ b∈D,H b)/\e=.returned (.bool true)/\Outside D w w'):=by
 obtain ⟨va,vw,Y,Z,ts,N,F,S,hsh,hcnt,htop,hH,hHlt⟩:=hS
 have hly:Y.length=ts.length:=hsh.own.len
 obtain ⟨p0,d0,e0,hd0⟩:=ownsRow_form hsh.r0
 rw [hly] at e0 hd0
 have hps:ps ∉ F:=(nodupT.1 hsh.nodup).2.2.1
 have hpl:ps<w.heap.size:=hsh.lt ps (by simp [deskT])
 have HC0:=hid (fun (W:World) (h:Outside F w W)=>(show W.cell? ⟨ps,0,none⟩=some (.slice p0 ts.length d0) from (cell_of_heap (h.block ps hpl hps)).trans (hsh.c0.trans (congrArg some e0))))
 have HRD:=hid (fun (W:World) (h:Outside F w W) (i:Nat) (hi:i<ts.length)=>hsh.reads h hi)
 have HFH:=hid (fun b (hb:b∈F)=>hH b (.inl (List.mem_append_right _ hb)))
 have HFIT:=hid hsh.fits
 have HSL:=hid (fun b (hb:S b)=>(hsh.sap b hb).1)
 have HOWN:=hid hsh.own
 have HFL:=hid hsh.flt
 have HFN:=hid (nodupT.1 hsh.nodup).2.2.2
 have HLY:=hid hly
 have hlt4:ts.length<=40000:=Nat.le_trans hcnt htop
 clear hsh hcnt htop hH hHlt e0 hly
 go_enter Tryz.func17,Tryz.ntmps17
 go_wp2_with fail
 go_loopw [3] (fun i wr=>∃ I:Nat,I<=ts.length/\i=.int .i64 I/\Below w.heap.size w wr) (fun i _=>ts.length-(intOf i).toNat)
 case atStart=>exact ⟨0,Nat.zero_le _,rfl,Below.refl _ _⟩
 case round=>
  obtain ⟨I,hI,rfl,hb⟩:=hrel
  have HB:=hid hb
  have ho:Outside F w wr:=Outside.of_below hb
  have k0:=HC0.out _ ho
  by_cases hlt:I<ts.length
  ·obtain ⟨ga,ca,gw,cw,y,z,ea,ew,la,lw,hy,k0',k1,hay,haz,hrz,_,_,_,_⟩:=HRD.out _ ho I hlt
   obtain ⟨Fi,hFi,hown⟩:=OwnK.get HOWN.out hlt hy
   have HE:=hid (fun (W:World) (h:Below wr.heap.size wr W)=>eq_calls ts[I] y z W
    (Rep.mono (Nat.le_trans hb.size h.size) _ _ ((hown.rep (B:=w.heap.size) _ _ _ (fun b hb=>HFL.out b (hFi b hb))).below (hb.trans (h.mono hb.size)) (Nat.le_refl _)))
    (Rep.mono h.size _ _ ((hrz.rep (B:=wr.heap.size) (fun b hb'=>Nat.lt_of_lt_of_le (HSL.out b hb') hb.size)).below h (Nat.le_refl _))) (HFIT.out _ (List.getElem_mem hlt)))
   have i0:(0:Int)<=(I:Int):=by omega
   have i1:(I:Int)<(ts.length:Int):=by omega
   obtain ⟨y0,y1,y2,y3,y4,y5⟩:=hay
   obtain ⟨z0,z1,z2,z3,z4,z5⟩:=haz
   simp only [TV.val,TV.cells] at HE
   clear k0 hrz hown hFi hy ho hb ea ew
   go_wp2_with fail
   refine still_tail 14 (by kernel_rfl) (by kernel_rfl) ?_
   simp only [List.take_succ_cons,List.take_zero,List.drop_succ_cons,List.drop_zero]
   repeat still_step
   refine wpStill_nil ?_
   go_wp2_with (go_at_call 12;refine (HE.out _ (Below.refl _ _).drew).mono ?_;rintro e w2 ⟨rfl,hb2⟩)
   have HB2:=hid (HB.out.drew.trans (hb2.mono HB.out.size))
   go_roundw
   case rel=>exact ⟨I+1,by omega,by go_num,HB2.out⟩
   case measure=>simp [intOf];omega
  ·clear hb ho
   go_wp2_with fail
   clear k0
   have hbz:=HB.out.size
   have hbk:=book_new wr
   have hba:=HB.out.alloc hbz (.cells #[.slice none 0 0,.slice none 0 0,.slice none 0 0,.int .i64 0] 52)
   obtain ⟨wk,hwk⟩:∃ wk:World,wk=wr:=⟨_,rfl⟩
   subst hwk
   generalize wk.alloc (.cells #[.slice none 0 0,.slice none 0 0,.slice none 0 0,.int .i64 0] 52)=w1 at hbk hba ⊢
   have E0:=hid (show EndsAt w w1 wk.heap.size [wk.heap.size] ts Y F F 0 from
    ⟨hbk,HOWN.out.kept (fun b hb=>hba.block b (HFL.out b hb)),HFN.out,fun _ h=>h,fun b hb=>Nat.lt_of_lt_of_le (HFL.out b hb) hba.size,fun b hb hm=>by
     have:=HFL.out b hb
     simp only [List.mem_singleton] at hm
     omega,fun b hb=>by
     simp only [List.mem_singleton] at hb
     exact .inr (by omega),Outside.of_below hba⟩)
   clear hbk hba
   go_loopw [5] (fun i wr=>∃ (I:Nat) (G Fr:List Nat),I<=ts.length/\i=.int .i64 I/\EndsAt w wr wk.heap.size G ts Y F Fr I) (fun i _=>ts.length-(intOf i).toNat)
   case atStart=>exact ⟨0,[wk.heap.size],F,Nat.zero_le _,rfl,E0.out⟩
   case round=>
    obtain ⟨J,G,Fr,hJ,rfl,hrel⟩:=hrel
    have HR:=hid hrel
    have ho:=hrel.out
    have hwz:=ho.size
    have k0:=HC0.out _ ho
    by_cases hlt2:J<ts.length
    ·obtain ⟨ga,ca,gw,cw,y,z,ea,ew,la,lw,hy,k0',k1,hay,haz,hrz,hga,hgw,hgaF,hgwF⟩:=HRD.out _ ho J hlt2
     obtain ⟨F1,F2,hF,hown,hrest⟩:=OwnK.uncons hlt2 hrel.own hy
     subst hF
     have hF1:∀ b∈F1,b<wr.heap.size:=fun b hb=>hrel.lt b (List.mem_append_left _ hb)
     have HE:=hid (fun (W:World) (h:Below wr.heap.size wr W)=>eq_calls ts[J] y z W
      (Rep.mono h.size _ _ ((hown.rep (B:=wr.heap.size) _ _ _ hF1).below h (Nat.le_refl _)))
      (Rep.mono h.size _ _ ((hrz.rep (B:=wr.heap.size) (fun b hb'=>Nat.lt_of_lt_of_le (HSL.out b hb') hwz)).below h (Nat.le_refl _))) (HFIT.out _ (List.getElem_mem hlt2)))
     have HTK:=hid (fun (W:World) (h:Below wr.heap.size wr W) (bt:Nat) (hat:At W bt 0 y)=>take_calls ts[J] y F1 W wk.heap.size bt G (hrel.book.below h) (Own.kept _ _ _ hown (fun b hb=>h.block b (hF1 b hb))) (List.nodup_append.1 hrel.nodup).1
      (fun b hb=>hrel.apart b (List.mem_append_left _ hb)) (fun b hb=>Nat.lt_of_lt_of_le (hF1 b hb) h.size) (HFIT.out _ (List.getElem_mem hlt2)).1 hat)
     have HST:=hid (fun (W w2:World) (h:Below wr.heap.size wr W) (e:Ending) (hp:TakePost W wk.heap.size G F1 e w2)=>(show e=.returned (.tuple #[])/\∃ G',EndsAt w w2 wk.heap.size G' ts Y F F2 (J+1) from by
      obtain ⟨he,G',h1,h2,h3⟩:=hp
      exact ⟨he,G',(hrel.below h).step (hrest.kept (fun b hb=>h.block b (hrel.lt b (List.mem_append_right _ hb)))) h1 h2 h3⟩))
     have i0:(0:Int)<=(J:Int):=by omega
     have i1:(J:Int)<(ts.length:Int):=by omega
     have hgar:ga<wr.heap.size:=by omega
     have hplr:ps<wr.heap.size:=by omega
     have HAY:=hid hay
     have HK0:=hid k0'
     obtain ⟨y0,y1,y2,y3,y4,y5⟩:=hay
     obtain ⟨z0,z1,z2,z3,z4,z5⟩:=haz
     simp only [TV.val,TV.cells] at HE HTK
     clear k0 hrz hown hy ho ea ew hrel hrest hF1
     go_wp2_with fail
     refine still_tail 14 (by kernel_rfl) (by kernel_rfl) ?_
     simp only [List.take_succ_cons,List.take_zero,List.drop_succ_cons,List.drop_zero]
     repeat still_step
     refine wpStill_nil ?_
     go_wp2_with (go_at_call 12;refine (HE.out _ (Below.refl _ _).drew).mono ?_;rintro e w2 ⟨rfl,hb2⟩;have HB2:=hid ((Below.refl _ _).drew.trans hb2:Below wr.heap.size wr w2);clear hb2 y0 y1 y2 y3 y4 y5 z0 z1 z2 z3 z4 z5 k0' k1;obtain ⟨y0,y1,y2,y3,y4,y5⟩:=HAY.out.kept (HB2.out.block ga hgar);have k0':=(cell_of_heap (HB2.out.block ps hplr)).trans HK0.out)
     have HB3:=hid (HB2.out.alloc HB2.out.size (.cells y.cells 34))
     have hbx:=Box.new w2 y 34
     simp only [TV.cells] at HB3 hbx
     with_reducible refine (HTK.out _ HB3.out _ ⟨hbx.c0,hbx.c1,hbx.c2,hbx.c3,hbx.c4,hbx.c5⟩).mono ?_
     intro e w4 hp4
     obtain ⟨rfl,G',hea⟩:=HST.out _ _ HB3.out _ hp4
     have HEA:=hid hea
     clear hea hp4 hbx
     go_wp2_with fail
     go_roundw
     case rel=>exact ⟨J+1,G',F2,by omega,by go_num,HEA.out⟩
     case measure=>simp [intOf];omega
    ·have HW:=hid (whole_calls wr wk.heap.size G hrel.book)
     clear hrel ho
     go_wp2_with fail
     refine HW.out.mono ?_
     rintro e w5 ⟨rfl,hb5⟩
     have HO:=hid (HR.out.out.trans (Outside.of_below hb5:Outside F wr w5))
     clear hb5
     go_wp2_with fail
     go_ret
     exact ⟨F,HFH.out,rfl,HO.out⟩
end Go.Proofs.YtpfkhdlnjefikaaGreatDoor
