/- The law's Shelf: own, as the document's. The law's Shelf: how it lies in memory. The law's Shelf: what Ends reads, and its Book. The law's Shelf: an element appended as nothing and written then. -/
import Derived.Test.YtpfkhdlnjefikaaGreatDoorQBkB
set_option linter.unusedVariables false
set_option linter.unusedSimpArgs false
namespace Go.Proofs.YtpfkhdlnjefikaaGreatDoor
open Go.RowKit
def OwnLaw (t:T):Prop:=t.nodes<=4096->∀ (x:TV) (B:Nat) (w:World),Rep w B t x->B<=w.heap.size->Calls Tryz.prog 36 #[x.val] w (TermPost NoS t w)
set_option maxRecDepth 100000 in
set_option maxHeartbeats 4000000 in
theorem own_law (t:T):OwnLaw t:=by
 refine T.ind (P:=OwnLaw) ?_ t
 intro k s n sh a l ih hn x B w hr hB
 have hl4:l.length<=4096:=by have:=T.length_le_nodes l;simp only [T.nodes] at hn;omega
 have hkl:x.kl=l.length:=hr.kl
 have hk4:x.kl<=4096:=by omega
 have hs1:=hr.wee.s1
 have ha1:=hr.wee.a1
 have HS:=hid (fun (W:World) (h:Below w.heap.size w W)=>hr.shape.keep (Keeps.of_below h hB))
 have HA:=hid (fun (W:World) (h:Below w.heap.size w W)=>hr.atoms.keep (Keeps.of_below h hB))
 simp only [T.shape_mk,T.atoms_mk] at HS HA
 have HKL:=hid hkl
 have HR:=hid hr
 have HIH:=hid ih
 have HB0:=hid (two_below w x)
 have X0:=two_box w x
 have R0:=hid (two_res w x)
 have hz0:w.heap.size+2<=(two w x).heap.size:=Nat.le_of_eq (two_size w x).symm
 have HZ0:=hid hz0
 have HX0:=hid X0
 clear hr ih X0 hz0 hkl
 simp only [TV.val,TV.cells]
 obtain ⟨i0,hi0,hz0,hz1,hz2⟩:=info_parts info_int0
 obtain ⟨j0,hj0,hy0,hy1,hy2⟩:=info_parts info_int640
 go_enter Tryz.func36,Tryz.ntmps36
 go_upto_region 1 with fail
 go_cut [] from 5 to 14 (fun wq=>∃ A1 c1 A2 c2,OwnNums w wq x sh a A1 c1 A2 c2/\x.sl<=c1/\c1<=maxLen/\x.al<=c2/\c2<=maxLen)
 case first=>
  go_region_law (first
   |(refine step_append_ints (by rfl) _ _ 28 (by rfl) (w.heap.size+2) 3 i0 (.int .i64 0) Tryz.underlying28 hi0 hz0 hz1 hz2 (by rfl) (.slice none 0 0) 0 [] (by rfl) (World.ownsRow_nil _ _ _ _) x.sa x.sl x.sc B sh (by rfl) (HS.out _ (by first|exact HB0.out|exact HB0.out.drew|exact HB2.out)) (by unfold maxLen;omega) (by omega) (by first|exact HZ0.out|exact hq2) ?_;intro v1 w1 hown1 hgrow1 _;have HB1:=hid (show Below w.heap.size w w1 from by first|exact below_grown_none HB0.out hgrow1 HB0.out.size|exact below_grown_none HB0.out.drew hgrow1 HB0.out.size|exact below_grown_none HB2.out hgrow1 HB2.out.size);have hq1:w.heap.size+2<=w1.heap.size:=(by first|exact Nat.le_trans HZ0.out hgrow1.size|exact Nat.le_trans hq2 hgrow1.size);have X1:Box w1 w.heap.size x:=(by first|exact HX0.out.grown hgrow1 (by simp [Value.ownBlock])|exact HX0.out.drew.grown hgrow1 (by simp [Value.ownBlock])|exact HX2.out.grown hgrow1 (by simp [Value.ownBlock]));have HX1:=hid X1;have RR1:=hid (show Box w1 (w.heap.size+1) zeroTV from by first|exact R0.out.grown hgrow1 (by simp [Value.ownBlock])|exact R0.out.drew.grown hgrow1 (by simp [Value.ownBlock])|exact RR2.out.grown hgrow1 (by simp [Value.ownBlock]));obtain ⟨k0,k1,k2,k3,k4,k5,kf⟩:=X1;obtain ⟨A1,c1,rfl,hc1,hm1,hrf1⟩:=row_form (xs:=sh) (n:=x.sl) (by simpa using hown1);have HF1:=hid (ints_own hown1 hrf1);clear hrf1;have HG1:=hid (show w1.grownBy w1 none from World.grownBy.refl _ _);have HI2:=hid (show True\/True from .inl trivial);(try have HI2:=hid (IntsS.grown HF2.out hgrow1));clear hgrow1 hown1)
   |(refine step_append_ints (by rfl) _ _ 29 (by rfl) (w.heap.size+2) 2 j0 (.int .i64 0) Tryz.underlying29 hj0 hy0 hy1 hy2 (by rfl) (.slice none 0 0) 0 [] (by rfl) (World.ownsRow_nil _ _ _ _) x.aa x.al x.ac B a (by rfl) (HA.out _ (by first|exact HB0.out|exact HB0.out.drew|exact HB1.out)) (by unfold maxLen;omega) (by omega) (by first|exact HZ0.out|exact hq1) ?_;intro v2 w2 hown2 hgrow2 _;have HB2:=hid (show Below w.heap.size w w2 from by first|exact below_grown_none HB0.out hgrow2 HB0.out.size|exact below_grown_none HB0.out.drew hgrow2 HB0.out.size|exact below_grown_none HB1.out hgrow2 HB1.out.size);have hq2:w.heap.size+2<=w2.heap.size:=(by first|exact Nat.le_trans HZ0.out hgrow2.size|exact Nat.le_trans hq1 hgrow2.size);have X2:Box w2 w.heap.size x:=(by first|exact HX0.out.grown hgrow2 (by simp [Value.ownBlock])|exact HX0.out.drew.grown hgrow2 (by simp [Value.ownBlock])|exact HX1.out.grown hgrow2 (by simp [Value.ownBlock]));have HX2:=hid X2;have RR2:=hid (show Box w2 (w.heap.size+1) zeroTV from by first|exact R0.out.grown hgrow2 (by simp [Value.ownBlock])|exact R0.out.drew.grown hgrow2 (by simp [Value.ownBlock])|exact RR1.out.grown hgrow2 (by simp [Value.ownBlock]));obtain ⟨k0,k1,k2,k3,k4,k5,kf⟩:=X2;obtain ⟨A2,c2,rfl,hc2,hm2,hrf2⟩:=row_form (xs:=a) (n:=x.al) (by simpa using hown2);have HF2:=hid (ints_own hown2 hrf2);clear hrf2;have HG2:=hid (show w2.grownBy w2 none from World.grownBy.refl _ _);have HI1:=hid (show True\/True from .inl trivial);(try have HI1:=hid (IntsS.grown HF1.out hgrow2));clear hgrow2 hown2))
  all_goals
   have HN:=hid (by first
    |exact OwnNums.make (c1:=c1) (c2:=c2) HB2.out hq2 HX2.out RR2.out HI1.out HF2.out
    |exact OwnNums.make (c1:=c1) (c2:=c2) HB1.out hq1 HX1.out RR1.out HF1.out HI2.out)
   go_wp2_with fail
   go_meet
   case rel=>exact ⟨A1,c1,A2,c2,HN.out,hc1,hm1,hc2,hm2⟩
 case rest=>
  obtain ⟨A1,c1,A2,c2,hnn,hc1,hm1,hc2,hm2⟩:=hcut
  have HN:=hid hnn
  clear hnn
  have hnil:=HN.out.nil l
  obtain ⟨k0,k1,k2,k3,k4,k5,kf⟩:=HN.out.box
  simp only at k0 k1 k2 k3 k4 k5
  go_wp2_with fail
  clear k0 k1 k2 k3 k4 k5 kf
  generalize wc.setCell ⟨w.heap.size,5,none⟩ (.slice none 0 0)=w0 at hnil ⊢
  obtain ⟨hP0,hz0',hres0,hi1,hi2⟩:=hnil
  have HP0:=hid hP0
  have HRES0:=hid hres0
  have HI1':=hid hi1
  have HI2':=hid hi2
  clear hP0 hres0 hi1 hi2
  go_loopw [4] (fun i wr=>∃ (K:Nat) (A:Option Addr) (c:Nat) (ys:List TV),K<=x.kl/\i=.int .i64 K/\PickG w w0 NoS w.heap.size ⟨x.kind,x.text,x.n,A1,x.sl,c1,A2,x.al,c2,none,0,0⟩ l K wr A c ys) (fun i _=>x.kl-(intOf i).toNat)
  case atStart=>exact ⟨0,none,0,[],Nat.zero_le _,rfl,HP0.out⟩
  case round=>
   obtain ⟨i,A,c,ys,hi,rfl,hrel⟩:=hrel
   have HPK:=hid hrel
   clear hrel
   by_cases hlt:i<x.kl
   ·have hil:i<l.length:=by rw [<-HKL.out];exact hlt
    have hu:l[i]? =some l[i]:=List.getElem?_eq_getElem hil
    obtain ⟨b,o,y,he,hb,hat,hru⟩:=HR.out.kid (t:=T.mk k s n sh a l) (j:=i) hu
    have HU:=hid hu
    have hnn:=T.nodes_mem (List.getElem_mem hil)
    have HC:=hid (fun (W:World) (h:Below w.heap.size w W)=>HIH.out l[i] (List.getElem_mem hil) (by simp only [T.nodes] at hn;omega) y B W (hru.below h hB) (Nat.le_trans hB h.size))
    simp only [TV.val,TV.cells] at HC
    have hbw:b<wr.heap.size:=by have:=HPK.out.below.size;omega
    have hat':=hat.keep hb (Keeps.of_below HPK.out.below hB)
    have S0:=hid (show Held_rg wr w.heap.size b (o+i*6) A i c y from ⟨HPK.out.box.c5,hat'.c0,hat'.c1,hat'.c2,hat'.c3,hat'.c4,hat'.c5⟩)
    obtain ⟨q0,q1,q2,q3,q4,q5⟩:=hat'
    have p5:=HPK.out.box.c5
    simp only at p5
    have hzt:=HPK.out.box.lt
    have hbt:b<w.heap.size:=by omega
    have hk0:(0:Int)<=(i:Int):=by omega
    have hk1:(i:Int)<(x.kl:Int):=by omega
    have nx1:¬b=w.heap.size:=by omega
    have nx2:¬w.heap.size=b:=by omega
    have hwr0:=HPK.out.size
    rw [he]
    clear hat hru hu he hnn
    obtain ⟨m0,hm0,hmz0,hmz1,hmz2⟩:=info_parts info_term0
    go_wp2_with fail
    go_region_law (first
     |(refine step_append_lies _ (by rfl) _ _ 32 (by rfl) w0.heap.size 34 m0 _ 6 104 Tryz.underlying32 hm0 hmz0 hmz1 hmz2 (by rfl) (by decide) _ i (rowCells ys) (by rfl) (HPK.out.row.kept (grown_of_below (HB4'.out.trans ((Below.refl w4.heap.size w4).alloc (Nat.le_refl _) _|>.mono hz4')) none) (by cases h:(Value.slice A i c).ownBlock<;>simp)) ⟨w4.heap.size,0,none⟩ 1 1 z.cells.toList (by rfl) (by rfl) (row_new w4 z.cells _) (cells_one z) (by omega) (by unfold maxLen;omega) (by omega) (by simp;omega) (w4.heap.size+1) (by simp) ?_;intro g cap w5 hown hgrow hat hlt5;have S3:=((S0.out.keep HB4'.out hzt hbw).keep ((Below.refl w4.heap.size w4).alloc (Nat.le_refl _) (.cells z.cells 34)) (by omega) (by omega)).grow hgrow (fun g e=>Nat.lt_of_lt_of_le (by omega) (HPK.out.row.lt g e).1) hbt;unfold Held_rg at S3;have S3:=S3.2;have S4:=hid (S3);have S3:=hid S3;have T5:=Box.grown (((HPK.out.box.below HB4'.out hzt)).alloc _) hgrow (fun e=>by have:=(HPK.out.row.lt _ e.symm).1;omega);obtain ⟨p0,p1,p2,p3,p4,p5,pf⟩:=T5;simp only at p0 p1 p2 p3 p4 p5)
     |(go_simp;go_at_call 36;(with_reducible refine (HC.out _ (by first|exact HPK.out.below|exact HPK.out.below.drew)).mono ?_);rintro e w4 ⟨z,rfl,hr,hb4⟩;simp only [TV.val,TV.cells];have hb4':Below wr.heap.size wr w4:=(by first|exact hb4|exact (Below.refl _ _).drew.trans hb4);have S1:=S0.out.keep hb4' hzt hbw;unfold Held_rg at S1;have p54:=S1.1;have S1:=S1.2;have S1:=hid S1;have HR4:=hid hr;have HB4':=hid hb4';have hz4':=hb4'.size;have hz5':w.heap.size<w4.heap.size:=(by omega);clear hr hb4))
    all_goals
     have HNX:=hid (HPK.out.next (fun b h=>False.elim h) (Nat.le_refl _) (by omega) (by rfl) HU.out HB4'.out HR4.out hgrow hown hat)
     clear hgrow hown hat p0 p1 p2 p3 p4 p5 pf p54 hlt5
     go_wp2_with fail
     go_roundw
     case rel=>exact ⟨i+1,_,_,_,by omega,by go_num,HNX.out⟩
     case measure=>simp [intOf];omega
   ·have hie:i=x.kl:=by omega
    have HE:=hid (own_ends HR.out hie HPK.out hz0' HI1'.out HI2'.out hc1 hm1 hc2 hm2)
    have HBW:=hid HPK.out.below
    have hres:Box wr (w.heap.size+1) zeroTV:=by
     have hk:wr.heap[w.heap.size+1]? =w0.heap[w.heap.size+1]? :=HPK.out.old _ (by omega) (by omega)
     have hc:=HRES0.out
     exact ⟨(cell_of_heap hk).trans hc.c0,(cell_of_heap hk).trans hc.c1,(cell_of_heap hk).trans hc.c2,(cell_of_heap hk).trans hc.c3,(cell_of_heap hk).trans hc.c4,(cell_of_heap hk).trans hc.c5,fun o=>(World.frozen?_of_block (a:=⟨w.heap.size+1,o,none⟩) hk).trans (hc.f o)⟩
    obtain ⟨p0,p1,p2,p3,p4,p5,pf⟩:=HPK.out.box
    obtain ⟨r0,r1,r2,r3,r4,r5,rf⟩:=hres
    simp only at p0 p1 p2 p3 p4 p5
    simp only [zeroTV] at r0 r1 r2 r3 r4 r5
    clear hie
    go_wp2_with fail
    refine bodyPost_ret (v:=TV.val { x with sa:=A1,sc:=c1,aa:=A2,ac:=c2,ka:=A,kl:=i,kc:=c }) (by simp [results,Tryz.results36,TV.val,TV.cells,r0,r1,r2,r3,r4,r5,rf,go_sem]) rfl ?_
    with_reducible exact pass_ends (S:=NoS) (rb:=w.heap.size+1) (k:=2) noS_lt HE.out HBW.out (by omega) (by omega) _ _ _ _ _ _
def deskT (ps:Nat) (va vw:Value):List Nat:=ps::(va.ownBlock.toList++vw.ownBlock.toList)
theorem memT {ps b:Nat} {va vw:Value}:b∈deskT ps va vw ↔ b=ps\/va.ownBlock=some b\/vw.ownBlock=some b:=by simp [deskT]
theorem nodupT {ps:Nat} {va vw:Value} {F:List Nat}:(deskT ps va vw++F).Nodup ↔ (∀ g,va.ownBlock=some g->g≠ps/\g ∉ F/\vw.ownBlock≠some g)/\(∀ g,vw.ownBlock=some g->g≠ps/\g ∉ F)/\ps ∉ F/\F.Nodup:=by
 unfold deskT
 cases va.ownBlock<;>cases vw.ownBlock<;>simp<;>grind
structure ShelfG (w:World) (ps:Nat) (va vw:Value) (Y Z:List TV) (ts us:List T) (N:Nat) (F:List Nat) (S:Nat->Prop):Prop where
 c0:w.cell? ⟨ps,0,none⟩=some va
 c1:w.cell? ⟨ps,1,none⟩=some vw
 c2:w.cell? ⟨ps,2,none⟩=some (.int .i64 N)
 f:∀ o,w.frozen? ⟨ps,o,none⟩=false
 r0:w.ownsRow 0 34 6 va Y.length (rowCells Y)
 r1:w.ownsRow 0 34 6 vw Z.length (rowCells Z)
 own:OwnK w ts Y F
 reps:∀ (j:Nat) (u:T),us[j]? =some u->∃ z,Z[j]? =some z/\RepS w S u z
 len:Z.length=us.length
 nodup:(deskT ps va vw++F).Nodup
 flt:∀ b∈F,b<w.heap.size
 sap:∀ b,S b->b<w.heap.size/\b ∉ deskT ps va vw++F
 fits:∀ u∈ts,u.fits
section
variable {w w':World} {ps:Nat} {va vw:Value} {Y Z:List TV} {ts us:List T} {N:Nat} {F:List Nat} {S:Nat->Prop}
theorem ShelfG.lt (h:ShelfG w ps va vw Y Z ts us N F S):∀ b∈deskT ps va vw,b<w.heap.size:=by
 intro b hb
 rw [memT] at hb
 rcases hb with rfl|hb|hb
 ·exact World.block_lt_of_cell? w _ h.c0
 ·exact (h.r0.lt b hb).2
 ·exact (h.r1.lt b hb).2
theorem ShelfG.kept (h:ShelfG w ps va vw Y Z ts us N F S) (hk:∀ b,b∈deskT ps va vw++F\/S b->w'.heap[b]? =w.heap[b]?) (hz:w.heap.size<=w'.heap.size):ShelfG w' ps va vw Y Z ts us N F S:=by
 have hp:=hk ps (.inl (by simp [deskT]))
 refine ⟨(cell_of_heap hp).trans h.c0,(cell_of_heap hp).trans h.c1,(cell_of_heap hp).trans h.c2,fun o=>(World.frozen?_of_block (a:=⟨ps,o,none⟩) hp).trans (h.f o),
  ownsRow_kept h.r0 (fun g e=>hk g (.inl (List.mem_append_left _ (memT.2 (.inr (.inl e)))))),ownsRow_kept h.r1 (fun g e=>hk g (.inl (List.mem_append_left _ (memT.2 (.inr (.inr e)))))),
  h.own.kept (fun b hb=>hk b (.inl (List.mem_append_right _ hb))),fun j u hj=>?_,h.len,h.nodup,fun b hb=>Nat.lt_of_lt_of_le (h.flt b hb) hz,fun b hb=>⟨Nat.lt_of_lt_of_le (h.sap b hb).1 hz,(h.sap b hb).2⟩,h.fits⟩
 obtain ⟨z,h1,h2⟩:=h.reps j u hj
 exact ⟨z,h1,RepS.keep (fun b o hb=>cell_of_heap (hk b (.inr hb))) (fun _ h=>h) _ _ h2⟩
theorem ShelfG.all_lt (h:ShelfG w ps va vw Y Z ts us N F S):∀ b,b∈deskT ps va vw++F\/S b->b<w.heap.size:=by
 intro b hb
 rcases hb with hb|hb
 ·rcases List.mem_append.1 hb with hb|hb
  ·exact h.lt b hb
  ·exact h.flt b hb
 ·exact (h.sap b hb).1
theorem ShelfG.below (h:ShelfG w ps va vw Y Z ts us N F S) (hb:Below w.heap.size w w'):ShelfG w' ps va vw Y Z ts us N F S:=
 h.kept (fun b hb'=>hb.block b (h.all_lt b hb')) hb.size
theorem ShelfG.outside {G:List Nat} (h:ShelfG w ps va vw Y Z ts us N F S) (hb:Outside G w w') (hG:∀ b∈G,¬(b∈deskT ps va vw++F\/S b)):ShelfG w' ps va vw Y Z ts us N F S:=
 h.kept (fun b hb'=>hb.block b (h.all_lt b hb') (fun hm=>hG b hm hb')) hb.size
structure SPush (w w':World) (ps:Nat) (va vw va' vw':Value) (Y Z:List TV) (ts us:List T) (N:Nat) (F F':List Nat) (S S':Nat->Prop) (Fy:List Nat):Prop where
 shelf:ShelfG w' ps va' vw' Y Z ts us N F' S'
 out:Outside (deskT ps va vw) w w'
 desk:∀ b∈deskT ps va' vw',b∈deskT ps va vw\/w.heap.size<=b
 new:∀ b,b∈deskT ps va' vw'++F'\/S' b->(b∈deskT ps va vw++F\/S b)\/b∈Fy\/w.heap.size<=b
theorem SPush.count (h:ShelfG w ps va vw Y Z ts us N F S) (N':Nat) (Fy:List Nat):SPush w (w.setCell ⟨ps,2,none⟩ (.int .i64 N')) ps va vw va vw Y Z ts us N' F F S S Fy:=by
 have hn:=nodupT.1 h.nodup
 have hk:∀ b,b≠ps->(w.setCell ⟨ps,2,none⟩ (.int .i64 N')).heap[b]? =w.heap[b]? :=fun b hb=>Below.heap_setCell _ _ _ _ hb
 have hs:(w.setCell ⟨ps,2,none⟩ (.int .i64 N')).heap.size=w.heap.size:=by simp [World.setCell]
 refine ⟨⟨(cell_set_ne (by omega)).trans h.c0,(cell_set_ne (by omega)).trans h.c1,?_,?_,ownsRow_kept h.r0 (fun g e=>hk g (hn.1 g e).1),ownsRow_kept h.r1 (fun g e=>hk g (hn.2.1 g e).1),
  h.own.kept (fun b hb=>hk b (fun e=>hn.2.2.1 (e▸hb))),fun j u hj=>?_,h.len,h.nodup,fun b hb=>by rw [hs];exact h.flt b hb,fun b hb=>by rw [hs];exact h.sap b hb,h.fits⟩,(Outside.refl _ _).set (.inl (by simp [deskT])) _,fun b hb=>.inl hb,fun b hb=>.inl hb⟩
 ·have:=h.c2
  simp [this,go_sem]
 ·intro o;have:=h.f o;simp [this,go_sem]
 ·obtain ⟨z,h1,h2⟩:=h.reps j u hj
  exact ⟨z,h1,RepS.keep (fun b o hb=>cell_of_heap (hk b (fun e=>(h.sap b hb).2 (by simp [deskT,e])))) (fun _ h=>h) _ _ h2⟩
theorem SPush.all {wb w5:World} {m g cap:Nat} {u:T} {y:TV} {Fy:List Nat} (h:ShelfG w ps va vw Y Z ts us N F S) (hl:Y.length=m) (hb:Below w.heap.size w wb)
 (hown:w5.ownsRow 0 34 6 (.slice (some ⟨g,0,none⟩) (m+1) cap) (m+1) (rowCells Y++y.cells.toList)) (hg:wb.grownBy w5 va.ownBlock) (hat:va.ownBlock=some g\/g=wb.heap.size)
 (hy:Own w u y Fy) (hN:Fy.Nodup) (hF:∀ b∈Fy,b<w.heap.size/\¬(b∈deskT ps va vw++F\/S b)) (hfit:u.fits):
 SPush w (w5.setCell ⟨ps,0,none⟩ (.slice (some ⟨g,0,none⟩) (m+1) cap)) ps va vw (.slice (some ⟨g,0,none⟩) (m+1) cap) vw (Y++[y]) Z (ts++[u]) us N F (F++Fy) S S Fy:=by
 obtain ⟨n1,n2,n3,n4⟩:=nodupT.1 h.nodup
 have hbz:=hb.size
 have hgz:=hg.size
 have hp:ps<w.heap.size:=h.lt ps (by simp [deskT])
 have hk:∀ b,b<w.heap.size->va.ownBlock≠some b->w5.heap[b]? =w.heap[b]? :=fun b h1 h2=>(hg.block b (Nat.lt_of_lt_of_le h1 hb.size) (fun e=>h2 e.symm)).trans (hb.block b h1)
 have hvp:va.ownBlock≠some ps:=fun e=>(n1 ps e).1 rfl
 have hc:∀ o,w5.cell? ⟨ps,o,none⟩=w.cell? ⟨ps,o,none⟩:=fun o=>cell_of_heap (hk ps hp hvp)
 have hf:∀ o,w5.frozen? ⟨ps,o,none⟩=false:=fun o=>(World.frozen?_of_block (a:=⟨ps,o,none⟩) (hk ps hp hvp)).trans (h.f o)
 have hgp:g≠ps:=by
  rcases hat with hb|e
  ·exact (n1 g hb).1
  ·omega
 have hgF:g ∉ F:=by
  rcases hat with hb|e
  ·exact (n1 g hb).2.1
  ·exact fun hm=>by have:=h.flt g hm;omega
 have hgY:g ∉ Fy:=by
  rcases hat with hb|e
  ·exact fun hm=>(hF g hm).2 (.inl (List.mem_append_left _ (memT.2 (.inr (.inl hb)))))
  ·exact fun hm=>by have:=(hF g hm).1;omega
 have hgw:vw.ownBlock≠some g:=by
  rcases hat with hb|e
  ·exact (n1 g hb).2.2
  ·exact fun hm=>by have:=(h.r1.lt g hm).2;omega
 have hgS:¬S g:=by
  rcases hat with hb|e
  ·exact fun hs=>(h.sap g hs).2 (List.mem_append_left _ (memT.2 (.inr (.inl hb))))
  ·exact fun hs=>by have:=(h.sap g hs).1;omega
 have hset:∀ b,b≠ps->(w5.setCell ⟨ps,0,none⟩ (.slice (some ⟨g,0,none⟩) (m+1) cap)).heap[b]? =w5.heap[b]? :=fun b hb=>Below.heap_setCell _ _ _ _ hb
 have hs:(w5.setCell ⟨ps,0,none⟩ (.slice (some ⟨g,0,none⟩) (m+1) cap)).heap.size=w5.heap.size:=by simp [World.setCell]
 have hkk:∀ b,b<w.heap.size->va.ownBlock≠some b->b≠ps->(w5.setCell ⟨ps,0,none⟩ (.slice (some ⟨g,0,none⟩) (m+1) cap)).heap[b]? =w.heap[b]? :=fun b h1 h2 h3=>(hset b h3).trans (hk b h1 h2)
 have hvF:∀ b∈F,va.ownBlock≠some b:=fun b hb e=>(n1 b e).2.1 hb
 have hvY:∀ b∈Fy,va.ownBlock≠some b:=fun b hb e=>(hF b hb).2 (.inl (List.mem_append_left _ (memT.2 (.inr (.inl e)))))
 have hpY:∀ b∈Fy,b≠ps:=fun b hb e=>(hF b hb).2 (.inl (List.mem_append_left _ (memT.2 (.inl e))))
 have hdesk:∀ b∈deskT ps (.slice (some ⟨g,0,none⟩) (m+1) cap) vw,b∈deskT ps va vw\/w.heap.size<=b:=by
  intro b hb
  rcases memT.1 hb with e|e|e
  ·exact .inl (memT.2 (.inl e))
  ·have e:some g=some b:=e
   cases e
   rcases hat with h'|h'
   ·exact .inl (memT.2 (.inr (.inl h')))
   ·exact .inr (by omega)
  ·exact .inl (memT.2 (.inr (.inr e)))
 refine ⟨⟨?_,(cell_set_ne (by omega)).trans ((hc 1).trans h.c1),(cell_set_ne (by omega)).trans ((hc 2).trans h.c2),?_,?_,?_,?_,fun j u hj=>?_,h.len,?_,?_,?_,?_⟩,?_,hdesk,?_⟩
 ·have:=(hc 0).trans h.c0
  simp [this,go_sem]
 ·intro o;have:=hf o;simp [this,go_sem]
 ·rw [List.length_append,hl,rowCells_snoc]
  exact ownsRow_kept hown (fun b e=>by cases e;exact hset _ hgp)
 ·exact ownsRow_kept h.r1 (fun b e=>hkk b (h.r1.lt b e).2 (fun e'=>(n1 b e').2.2 e) (n2 b e).1)
 ·exact (h.own.kept (fun b hb=>hkk b (h.flt b hb) (hvF b hb) (fun e=>n3 (e▸hb)))).snoc (Own.kept _ _ _ hy (fun b hb=>hkk b (hF b hb).1 (hvY b hb) (hpY b hb)))
 ·obtain ⟨z,h1,h2⟩:=h.reps j u hj
  refine ⟨z,h1,RepS.keep (fun b o hb=>cell_of_heap (hkk b (h.sap b hb).1 (fun e=>(h.sap b hb).2 ?_) (fun e=>(h.sap b hb).2 ?_))) (fun _ h=>h) _ _ h2⟩
  ·exact List.mem_append_left _ (memT.2 (.inr (.inl e)))
  ·exact List.mem_append_left _ (memT.2 (.inl e))
 ·refine nodupT.2 ⟨fun b e=>?_,fun b e=>⟨(n2 b e).1,fun hm=>?_⟩,fun hm=>?_,?_⟩
  ·have e:some g=some b:=e
   cases e
   exact ⟨hgp,fun hm=>by rcases List.mem_append.1 hm with h|h;exact hgF h;exact hgY h,hgw⟩
  ·rcases List.mem_append.1 hm with h'|h'
   ·exact (n2 b e).2 h'
   ·exact (hF b h').2 (.inl (List.mem_append_left _ (memT.2 (.inr (.inr e)))))
  ·rcases List.mem_append.1 hm with h'|h'
   ·exact n3 h'
   ·exact hpY _ h' rfl
  ·exact List.nodup_append.2 ⟨n4,hN,fun a ha b hb e=>by subst e;exact (hF a hb).2 (.inl (List.mem_append_right _ ha))⟩
 ·intro b hb
  rw [hs]
  rcases List.mem_append.1 hb with hb|hb
  ·have:=h.flt b hb;omega
  ·have:=(hF b hb).1;omega
 ·intro b hb
  have h1:=(h.sap b hb).1
  refine ⟨by rw [hs];omega,fun hm=>?_⟩
  rcases List.mem_append.1 hm with hm|hm
  ·rcases memT.1 hm with e|e|e
   ·exact (h.sap b hb).2 (List.mem_append_left _ (memT.2 (.inl e)))
   ·have e:some g=some b:=e
    cases e
    exact hgS hb
   ·exact (h.sap b hb).2 (List.mem_append_left _ (memT.2 (.inr (.inr e))))
  ·rcases List.mem_append.1 hm with hm|hm
   ·exact (h.sap b hb).2 (List.mem_append_right _ hm)
   ·exact (hF b hm).2 (.inr hb)
 ·intro v hv
  rcases List.mem_append.1 hv with hv|hv
  ·exact h.fits v hv
  ·simp at hv;subst hv;exact hfit
 ·refine ⟨hg.os.trans hb.os,hg.tape.trans hb.tape,hg.output.trans hb.output,by rw [hs];omega,fun b hb hm=>?_⟩
  rw [memT] at hm
  exact hkk b hb (fun e=>hm (.inr (.inl e))) (fun e=>hm (.inl e))
 ·intro b hb
  rcases hb with hb|hb
  ·rcases List.mem_append.1 hb with hb|hb
   ·rcases memT.1 hb with e|e|e
    ·exact .inl (.inl (List.mem_append_left _ (memT.2 (.inl e))))
    ·have e:some g=some b:=e
     cases e
     rcases hat with h'|h'
     ·exact .inl (.inl (List.mem_append_left _ (memT.2 (.inr (.inl h')))))
     ·exact .inr (.inr (by omega))
    ·exact .inl (.inl (List.mem_append_left _ (memT.2 (.inr (.inr e)))))
   ·rcases List.mem_append.1 hb with hb|hb
    ·exact .inl (.inl (List.mem_append_right _ hb))
    ·exact .inr (.inl hb)
  ·exact .inl (.inr hb)
theorem SPush.were {wb w5:World} {m g cap:Nat} {u:T} {z:TV} {S':Nat->Prop} {Fy:List Nat} (h:ShelfG w ps va vw Y Z ts us N F S) (hl:Z.length=m) (hb:Below w.heap.size w wb)
 (hown:w5.ownsRow 0 34 6 (.slice (some ⟨g,0,none⟩) (m+1) cap) (m+1) (rowCells Z++z.cells.toList)) (hg:wb.grownBy w5 vw.ownBlock) (hat:vw.ownBlock=some g\/g=wb.heap.size)
 (hz:RepS wb S' u z) (hS:∀ b,S' b->w.heap.size<=b/\b<wb.heap.size):
 SPush w (w5.setCell ⟨ps,1,none⟩ (.slice (some ⟨g,0,none⟩) (m+1) cap)) ps va vw va (.slice (some ⟨g,0,none⟩) (m+1) cap) Y (Z++[z]) ts (us++[u]) N F F S (fun b=>S b\/S' b) Fy:=by
 obtain ⟨n1,n2,n3,n4⟩:=nodupT.1 h.nodup
 have hbz:=hb.size
 have hgz:=hg.size
 have hp:ps<w.heap.size:=h.lt ps (by simp [deskT])
 have hk:∀ b,b<w.heap.size->vw.ownBlock≠some b->w5.heap[b]? =w.heap[b]? :=fun b h1 h2=>(hg.block b (Nat.lt_of_lt_of_le h1 hb.size) (fun e=>h2 e.symm)).trans (hb.block b h1)
 have hvp:vw.ownBlock≠some ps:=fun e=>(n2 ps e).1 rfl
 have hc:∀ o,w5.cell? ⟨ps,o,none⟩=w.cell? ⟨ps,o,none⟩:=fun o=>cell_of_heap (hk ps hp hvp)
 have hf:∀ o,w5.frozen? ⟨ps,o,none⟩=false:=fun o=>(World.frozen?_of_block (a:=⟨ps,o,none⟩) (hk ps hp hvp)).trans (h.f o)
 have hgp:g≠ps:=by
  rcases hat with hb|e
  ·exact (n2 g hb).1
  ·omega
 have hgF:g ∉ F:=by
  rcases hat with hb|e
  ·exact (n2 g hb).2
  ·exact fun hm=>by have:=h.flt g hm;omega
 have hga:va.ownBlock≠some g:=by
  rcases hat with hb|e
  ·exact fun e=>(n1 g e).2.2 hb
  ·exact fun hm=>by have:=(h.r0.lt g hm).2;omega
 have hgS:¬S g:=by
  rcases hat with hb|e
  ·exact fun hs=>(h.sap g hs).2 (List.mem_append_left _ (memT.2 (.inr (.inr hb))))
  ·exact fun hs=>by have:=(h.sap g hs).1;omega
 have hgS':¬S' g:=by
  rcases hat with hb|e
  ·exact fun hs=>by have:=(hS g hs).1;have:=(h.r1.lt g hb).2;omega
  ·exact fun hs=>by have:=(hS g hs).2;omega
 have hset:∀ b,b≠ps->(w5.setCell ⟨ps,1,none⟩ (.slice (some ⟨g,0,none⟩) (m+1) cap)).heap[b]? =w5.heap[b]? :=fun b hb=>Below.heap_setCell _ _ _ _ hb
 have hs:(w5.setCell ⟨ps,1,none⟩ (.slice (some ⟨g,0,none⟩) (m+1) cap)).heap.size=w5.heap.size:=by simp [World.setCell]
 have hkk:∀ b,b<w.heap.size->vw.ownBlock≠some b->b≠ps->(w5.setCell ⟨ps,1,none⟩ (.slice (some ⟨g,0,none⟩) (m+1) cap)).heap[b]? =w.heap[b]? :=fun b h1 h2 h3=>(hset b h3).trans (hk b h1 h2)
 have hdesk:∀ b∈deskT ps va (.slice (some ⟨g,0,none⟩) (m+1) cap),b∈deskT ps va vw\/w.heap.size<=b:=by
  intro b hb
  rcases memT.1 hb with e|e|e
  ·exact .inl (memT.2 (.inl e))
  ·exact .inl (memT.2 (.inr (.inl e)))
  ·have e:some g=some b:=e
   cases e
   rcases hat with h'|h'
   ·exact .inl (memT.2 (.inr (.inr h')))
   ·exact .inr (by omega)
 refine ⟨⟨(cell_set_ne (by omega)).trans ((hc 0).trans h.c0),?_,(cell_set_ne (by omega)).trans ((hc 2).trans h.c2),?_,?_,?_,?_,fun j v hj=>?_,by simp [h.len],?_,?_,?_,h.fits⟩,?_,hdesk,?_⟩
 ·have:=(hc 1).trans h.c1
  simp [this,go_sem]
 ·intro o;have:=hf o;simp [this,go_sem]
 ·exact ownsRow_kept h.r0 (fun b e=>hkk b (h.r0.lt b e).2 (fun e'=>(n1 b e).2.2 e') (n1 b e).1)
 ·rw [List.length_append,hl,rowCells_snoc]
  exact ownsRow_kept hown (fun b e=>by cases e;exact hset _ hgp)
 ·exact h.own.kept (fun b hb=>hkk b (h.flt b hb) (fun e=>(n2 b e).2 hb) (fun e=>n3 (e▸hb)))
 ·by_cases hj':j<us.length
  ·rw [List.getElem?_append_left hj'] at hj
   obtain ⟨z',h1,h2⟩:=h.reps j v hj
   refine ⟨z',by rw [List.getElem?_append_left (by rw [h.len];exact hj')];exact h1,RepS.keep (fun b o hb=>cell_of_heap (hkk b (h.sap b hb).1 (fun e=>(h.sap b hb).2 ?_) (fun e=>(h.sap b hb).2 ?_))) (fun b h=>.inl h) _ _ h2⟩
   ·exact List.mem_append_left _ (memT.2 (.inr (.inr e)))
   ·exact List.mem_append_left _ (memT.2 (.inl e))
  ·have hje:j=us.length:=by
    have:=(List.getElem?_eq_some_iff.1 hj).1
    simp at this;omega
   subst hje
   rw [List.getElem?_append_right (Nat.le_refl _)] at hj
   simp at hj
   subst hj
   refine ⟨z,by rw [List.getElem?_append_right (by rw [h.len];exact Nat.le_refl _),h.len];simp,RepS.keep (fun b o hb=>cell_of_heap ((hset b ?_).trans (hg.block b (hS b hb).2 ?_))) (fun b h=>.inr h) _ _ hz⟩
   ·have:=(hS b hb).1;omega
   ·intro e;have:=(h.r1.lt b e.symm).2;have:=(hS b hb).1;omega
 ·refine nodupT.2 ⟨fun b e=>⟨(n1 b e).1,(n1 b e).2.1,fun e'=>?_⟩,fun b e=>?_,n3,n4⟩
  ·have e':some g=some b:=e'
   cases e'
   exact hga e
  ·have e:some g=some b:=e
   cases e
   exact ⟨hgp,hgF⟩
 ·intro b hb
  rw [hs]
  have:=h.flt b hb;omega
 ·intro b hb
  rcases hb with hb|hb
  ·have h1:=(h.sap b hb).1
   refine ⟨by rw [hs];omega,fun hm=>?_⟩
   rcases List.mem_append.1 hm with hm|hm
   ·rcases memT.1 hm with e|e|e
    ·exact (h.sap b hb).2 (List.mem_append_left _ (memT.2 (.inl e)))
    ·exact (h.sap b hb).2 (List.mem_append_left _ (memT.2 (.inr (.inl e))))
    ·have e:some g=some b:=e
     cases e
     exact hgS hb
   ·exact (h.sap b hb).2 (List.mem_append_right _ hm)
  ·have h1:=hS b hb
   refine ⟨by rw [hs];omega,fun hm=>?_⟩
   rcases List.mem_append.1 hm with hm|hm
   ·rcases memT.1 hm with e|e|e
    ·omega
    ·have:=(h.r0.lt b e).2;omega
    ·have e:some g=some b:=e
     cases e
     exact hgS' hb
   ·have:=h.flt b hm;omega
 ·refine ⟨hg.os.trans hb.os,hg.tape.trans hb.tape,hg.output.trans hb.output,by rw [hs];omega,fun b hb hm=>?_⟩
  rw [memT] at hm
  exact hkk b hb (fun e=>hm (.inr (.inr e))) (fun e=>hm (.inl e))
 ·intro b hb
  rcases hb with hb|hb|hb
  ·rcases List.mem_append.1 hb with hb|hb
   ·rcases memT.1 hb with e|e|e
    ·exact .inl (.inl (List.mem_append_left _ (memT.2 (.inl e))))
    ·exact .inl (.inl (List.mem_append_left _ (memT.2 (.inr (.inl e)))))
    ·have e:some g=some b:=e
     cases e
     rcases hat with h'|h'
     ·exact .inl (.inl (List.mem_append_left _ (memT.2 (.inr (.inr h')))))
     ·exact .inr (.inr (by omega))
   ·exact .inl (.inl (List.mem_append_right _ hb))
  ·exact .inl (.inr hb)
  ·exact .inr (.inr (hS b hb).1)
end
theorem SPush.trans {a b c:World} {ps:Nat} {va vw va' vw' va2 vw2:Value} {Y Z Y2 Z2:List TV} {ts us ts2 us2:List T} {N N2:Nat} {F F' F2:List Nat} {S S' S2:Nat->Prop} {Fy:List Nat}
 (h:SPush a b ps va vw va' vw' Y Z ts us N F F' S S' Fy) (k:SPush b c ps va' vw' va2 vw2 Y2 Z2 ts2 us2 N2 F' F2 S' S2 Fy):SPush a c ps va vw va2 vw2 Y2 Z2 ts2 us2 N2 F F2 S S2 Fy:=by
 refine ⟨k.shelf,⟨k.out.os.trans h.out.os,k.out.tape.trans h.out.tape,k.out.output.trans h.out.output,Nat.le_trans h.out.size k.out.size,fun g hg hm=>?_⟩,fun g hg=>?_,fun g hg=>?_⟩
 ·refine (k.out.block g (Nat.lt_of_lt_of_le hg h.out.size) (fun h1=>?_)).trans (h.out.block g hg hm)
  rcases h.desk g h1 with h2|h2
  ·exact hm h2
  ·omega
 ·rcases k.desk g hg with h1|h1
  ·exact h.desk g h1
  ·exact .inr (Nat.le_trans h.out.size h1)
 ·rcases k.new g hg with h1|h1|h1
  ·exact h.new g h1
  ·exact .inr (.inl h1)
  ·exact .inr (.inr (Nat.le_trans h.out.size h1))
theorem SPush.ahead {a b c:World} {ps:Nat} {va vw va' vw':Value} {Y Z:List TV} {ts us:List T} {N:Nat} {F F':List Nat} {S S':Nat->Prop} {Fy:List Nat}
 (hb:Below a.heap.size a b) (k:SPush b c ps va vw va' vw' Y Z ts us N F F' S S' Fy):SPush a c ps va vw va' vw' Y Z ts us N F F' S S' Fy:=
 ⟨k.shelf,(Outside.of_below hb).trans k.out,fun g hg=>(k.desk g hg).imp id (fun h=>Nat.le_trans hb.size h),fun g hg=>(k.new g hg).imp id (fun h=>h.imp id (fun h=>Nat.le_trans hb.size h))⟩
def ShelfS (w:World) (ps:Nat) (H:Nat->Prop):Prop:=
 ∃ va vw Y Z ts N F S,ShelfG w ps va vw Y Z ts ts N F S/\ts.length<=N/\N<=40000/\(∀ b,b∈deskT ps va vw++F\/S b->H b)/\∀ b,H b->b<w.heap.size
theorem ShelfS.kept {w w':World} {ps:Nat} {H:Nat->Prop} (h:ShelfS w ps H) (hk:∀ b,H b->w'.heap[b]? =w.heap[b]?) (hz:w.heap.size<=w'.heap.size):ShelfS w' ps H:=by
 obtain ⟨va,vw,Y,Z,ts,N,F,S,h1,h2,h3,h4,h5⟩:=h
 exact ⟨va,vw,Y,Z,ts,N,F,S,h1.kept (fun b hb=>hk b (h4 b hb)) hz,h2,h3,h4,fun b hb=>Nat.lt_of_lt_of_le (h5 b hb) hz⟩
theorem ShelfS.lt {w:World} {ps:Nat} {H:Nat->Prop} (h:ShelfS w ps H):∀ b,H b->b<w.heap.size:=by
 obtain ⟨va,vw,Y,Z,ts,N,F,S,h1,h2,h3,h4,h5⟩:=h
 exact h5
theorem ShelfS.below {w w':World} {ps:Nat} {H:Nat->Prop} (h:ShelfS w ps H) (hb:Below w.heap.size w w'):ShelfS w' ps H:=
 h.kept (fun b hb'=>hb.block b (h.lt b hb')) hb.size
theorem ShelfS.outside {w w':World} {ps:Nat} {H:Nat->Prop} {G:List Nat} (h:ShelfS w ps H) (hb:Outside G w w') (hG:∀ b∈G,¬H b):ShelfS w' ps H:=
 h.kept (fun b hb'=>hb.block b (h.lt b hb') (fun hm=>hG b hm hb')) hb.size
def KeepPost (w:World) (ps:Nat) (H:Nat->Prop) (Fy:List Nat) (e:Ending) (w':World):Prop:=
 e=.returned (.tuple #[])/\∃ H' D,ShelfS w' ps H'/\(∀ b,H' b->H b\/b∈Fy\/w.heap.size<=b)/\(∀ b∈D,H b)/\Outside D w w'
theorem ShelfG.reads {w wr:World} {ps:Nat} {va vw:Value} {Y Z:List TV} {ts:List T} {N:Nat} {F:List Nat} {S:Nat->Prop} (h:ShelfG w ps va vw Y Z ts ts N F S) (ho:Outside F w wr) {i:Nat} (hi:i<ts.length):
 ∃ ga ca gw cw y z,va=.slice (some ⟨ga,0,none⟩) ts.length ca/\vw=.slice (some ⟨gw,0,none⟩) ts.length cw/\ts.length<=ca/\ts.length<=cw/\Y[i]? =some y/\wr.cell? ⟨ps,0,none⟩=some (.slice (some ⟨ga,0,none⟩) ts.length ca)/\wr.cell? ⟨ps,1,none⟩=some (.slice (some ⟨gw,0,none⟩) ts.length cw)/\
  At wr ga (i*6) y/\At wr gw (i*6) z/\RepS wr S ts[i] z/\ga<w.heap.size/\gw<w.heap.size/\ga ∉ F/\gw ∉ F:=by
 obtain ⟨n1,n2,n3,n4⟩:=nodupT.1 h.nodup
 have hly:Y.length=ts.length:=h.own.len
 have hlz:Z.length=ts.length:=h.len
 have r0:=h.r0
 have r1:=h.r1
 rw [hly] at r0
 rw [hlz] at r1
 obtain ⟨z,hz,hzr⟩:=h.reps i ts[i] (List.getElem?_eq_getElem hi)
 have hy:Y[i]? =some (Y[i]'(by omega)):=List.getElem?_eq_getElem (by omega)
 have f0:∃ ga ca,va=.slice (some ⟨ga,0,none⟩) ts.length ca/\ts.length<=ca:=by
  rcases r0 with ⟨_,⟨e1,e2⟩|⟨g,cap,cur,e,hg,hcur,h4,_⟩⟩
  ·omega
  ·exact ⟨g,cap,e,h4⟩
 have f1:∃ gw cw,vw=.slice (some ⟨gw,0,none⟩) ts.length cw/\ts.length<=cw:=by
  rcases r1 with ⟨_,⟨e1,e2⟩|⟨g,cap,cur,e,hg,hcur,h4,_⟩⟩
  ·omega
  ·exact ⟨g,cap,e,h4⟩
 obtain ⟨ga,ca,rfl,hca⟩:=f0
 obtain ⟨gw,cw,rfl,hcw⟩:=f1
 obtain ⟨_,l0,a0⟩:=row_at r0
 obtain ⟨_,l1,a1⟩:=row_at r1
 have hp:wr.heap[ps]? =w.heap[ps]? :=ho.block ps (h.lt ps (by simp [deskT])) n3
 have ka:wr.heap[ga]? =w.heap[ga]? :=ho.block ga l0 (n1 ga rfl).2.1
 have kw:wr.heap[gw]? =w.heap[gw]? :=ho.block gw l1 (n2 gw rfl).2
 refine ⟨ga,ca,gw,cw,_,z,rfl,rfl,hca,hcw,hy,(cell_of_heap hp).trans h.c0,(cell_of_heap hp).trans h.c1,(a0 i _ hy).kept ka,(a1 i z hz).kept kw,?_,l0,l1,(n1 ga rfl).2.1,(n2 gw rfl).2⟩
 exact RepS.keep (fun b o hb=>cell_of_heap (ho.block b (h.sap b hb).1 (fun hm=>(h.sap b hb).2 (List.mem_append_right _ hm)))) (fun _ h=>h) _ _ hzr
theorem OwnK.uncons {w:World} {ts:List T} {Y:List TV} {F:List Nat} {i:Nat} (hi:i<ts.length) (h:OwnK w (ts.drop i) (Y.drop i) F) {y:TV} (hy:Y[i]? =some y):∃ F1 F2,F=F1++F2/\Own w ts[i] y F1/\OwnK w (ts.drop (i+1)) (Y.drop (i+1)) F2:=by
 have hl:=(List.getElem?_eq_some_iff.1 hy).1
 have he:=(List.getElem?_eq_some_iff.1 hy).2
 rw [List.drop_eq_getElem_cons hi,List.drop_eq_getElem_cons hl,he] at h
 exact h
theorem OwnK.get {w:World}:∀ {ts:List T} {Y:List TV} {F:List Nat},OwnK w ts Y F->∀ {i:Nat} {y:TV} (hi:i<ts.length),Y[i]? =some y->∃ Fi,(∀ b∈Fi,b∈F)/\Own w ts[i] y Fi
 |t::ts,z::Y,F,h,i,y,hi,hy=>by
  obtain ⟨F1,F2,rfl,h1,h2⟩:=h
  match i,hi,hy with
  |0,hi,hy=>
   simp at hy
   subst hy
   exact ⟨F1,fun b hb=>List.mem_append_left _ hb,h1⟩
  |i+1,hi,hy=>
   obtain ⟨Fi,g1,g2⟩:=h2.get (i:=i) (by simpa using hi) (by simpa using hy)
   exact ⟨Fi,fun b hb=>List.mem_append_right _ (g1 b hb),g2⟩
 |[],_,_,_,i,_,hi,_=>absurd hi (by simp)
 |_::_,[],_,h,_,_,_,_=>h.elim
structure EndsAt (w0 wr:World) (pb:Nat) (G:List Nat) (ts:List T) (Y:List TV) (F Fr:List Nat) (i:Nat):Prop where
 book:BookS wr pb G
 own:OwnK wr (ts.drop i) (Y.drop i) Fr
 nodup:Fr.Nodup
 sub:∀ b∈Fr,b∈F
 lt:∀ b∈Fr,b<wr.heap.size
 apart:∀ b∈Fr,b ∉ G
 gsub:∀ b∈G,b∈F\/w0.heap.size<=b
 out:Outside F w0 wr
theorem EndsAt.below {w0 wr w1:World} {pb:Nat} {G:List Nat} {ts:List T} {Y:List TV} {F Fr:List Nat} {i:Nat} (h:EndsAt w0 wr pb G ts Y F Fr i) (hb:Below wr.heap.size wr w1):EndsAt w0 w1 pb G ts Y F Fr i:=
 ⟨h.book.below hb,h.own.kept (fun b hb'=>hb.block b (h.lt b hb')),h.nodup,h.sub,fun b hb'=>Nat.lt_of_lt_of_le (h.lt b hb') hb.size,h.apart,h.gsub,h.out.trans (Outside.of_below hb)⟩
theorem EndsAt.step {w0 w1 w2:World} {pb:Nat} {G G':List Nat} {ts:List T} {Y:List TV} {F F1 F2:List Nat} {i:Nat} (h:EndsAt w0 w1 pb G ts Y F (F1++F2) i) (hr:OwnK w1 (ts.drop (i+1)) (Y.drop (i+1)) F2)
 (hB:BookS w2 pb G') (hG:∀ b∈G',b∈G++F1\/w1.heap.size<=b) (ho:Outside (G++F1) w1 w2):EndsAt w0 w2 pb G' ts Y F F2 (i+1):=by
 have hn:=List.nodup_append.1 h.nodup
 have h2:∀ b∈F2,b ∉ G++F1:=fun b hb hm=>by
  rcases List.mem_append.1 hm with hm|hm
  ·exact h.apart b (List.mem_append_right _ hb) hm
  ·exact hn.2.2 b hm b hb rfl
 have hz:=h.out.size
 refine ⟨hB,hr.kept (fun b hb=>ho.block b (h.lt b (List.mem_append_right _ hb)) (h2 b hb)),hn.2.1,fun b hb=>h.sub b (List.mem_append_right _ hb),fun b hb=>Nat.lt_of_lt_of_le (h.lt b (List.mem_append_right _ hb)) ho.size,fun b hb hm=>?_,fun b hb=>?_,?_⟩
 ·rcases hG b hm with h'|h'
  ·exact h2 b hb h'
  ·have:=h.lt b (List.mem_append_right _ hb);omega
 ·rcases hG b hb with h'|h'
  ·rcases List.mem_append.1 h' with h'|h'
   ·exact h.gsub b h'
   ·exact .inl (h.sub b (List.mem_append_left _ h'))
  ·exact .inr (by omega)
 ·refine ⟨ho.os.trans h.out.os,ho.tape.trans h.out.tape,ho.output.trans h.out.output,Nat.le_trans hz ho.size,fun b hb hF=>(ho.block b (by omega) (fun hm=>?_)).trans (h.out.block b hb hF)⟩
  rcases List.mem_append.1 hm with hm|hm
  ·rcases h.gsub b hm with h'|h'
   ·exact hF h'
   ·omega
  ·exact hF (h.sub b (List.mem_append_left _ hm))
theorem book_new (w:World):BookS (w.alloc (.cells #[.slice none 0 0,.slice none 0 0,.slice none 0 0,.int .i64 0] 52)) w.heap.size [w.heap.size]:=by
 refine ⟨.slice none 0 0,.slice none 0 0,.slice none 0 0,[],0,[],⟨?_,?_,?_,?_,?_,World.ownsRow_nil _ _ _ _,World.ownsRow_nil _ _ _ _,World.ownsRow_nil _ _ _ _⟩,rfl,by simp,rfl,by omega,by omega,by simp,fun _=>by simp⟩
 all_goals simp
theorem set_six (l:List Value) (z:Array Value) (y:TV) (m:Nat) (hm:l.length=m) (hz:z.size=6):
 ((((((l++z.toList).set m (.int .i64 y.kind)).set (m+1) (.string y.text)).set (m+2) (.int .i64 y.n)).set (m+3) (.slice y.sa y.sl y.sc)).set (m+4) (.slice y.aa y.al y.ac)).set (m+5) (.slice y.ka y.kl y.kc)=l++y.cells.toList:=by
 subst hm
 obtain ⟨zl⟩:=z
 match zl,hz with
 |[a,b,c,d,e,f],_=>simp [List.set_append,TV.cells]
theorem rows_put {w5:World} {g m cap:Nat} {Y:List TV} {y z:TV} (hl:Y.length=m) (h:w5.ownsRow 0 34 6 (.slice (some ⟨g,0,none⟩) (m+1) cap) (m+1) (rowCells Y++z.cells.toList)):
 ((((((w5.setCell ⟨g,m*6,none⟩ (.int .i64 y.kind)).setCell ⟨g,m*6+1,none⟩ (.string y.text)).setCell ⟨g,m*6+2,none⟩ (.int .i64 y.n)).setCell ⟨g,m*6+3,none⟩ (.slice y.sa y.sl y.sc)).setCell ⟨g,m*6+4,none⟩ (.slice y.aa y.al y.ac)).setCell ⟨g,m*6+5,none⟩ (.slice y.ka y.kl y.kc)).ownsRow 0 34 6 (.slice (some ⟨g,0,none⟩) (m+1) cap) (m+1) (rowCells Y++y.cells.toList):=by
 have e:=set_six (rowCells Y) z.cells y (m*6) (by rw [rowCells_len,hl]) (by simp [TV.cells])
 have h1:=(h.stored (m*6) (.int .i64 y.kind)).1
 have h2:=(h1.stored (m*6+1) (.string y.text)).1
 have h3:=(h2.stored (m*6+2) (.int .i64 y.n)).1
 have h4:=(h3.stored (m*6+3) (.slice y.sa y.sl y.sc)).1
 have h5:=(h4.stored (m*6+4) (.slice y.aa y.al y.ac)).1
 have h6:=(h5.stored (m*6+5) (.slice y.ka y.kl y.kc)).1
 rw [e] at h6
 with_reducible exact h6
theorem grown_set1 {wb w5:World} {v:Value} {g:Nat} (h:wb.grownBy w5 v.ownBlock) (hat:v.ownBlock=some g\/g=wb.heap.size) (o:Nat) (u:Value):wb.grownBy (w5.setCell ⟨g,o,none⟩ u) v.ownBlock:=by
 refine ⟨h.os,h.tape,h.output,by simpa [World.setCell] using h.size,fun k hk hne=>?_⟩
 have hkg:k≠g:=by
  rcases hat with e|e
  ·exact fun h'=>hne (by rw [e,h'])
  ·omega
 exact (Below.heap_setCell _ _ _ _ hkg).trans (h.block k hk hne)
theorem grown_put {wb w5:World} {v:Value} {g m:Nat} (h:wb.grownBy w5 v.ownBlock) (hat:v.ownBlock=some g\/g=wb.heap.size) (v0 v1 v2 v3 v4 v5:Value):
 wb.grownBy ((((((w5.setCell ⟨g,m*6,none⟩ v0).setCell ⟨g,m*6+1,none⟩ v1).setCell ⟨g,m*6+2,none⟩ v2).setCell ⟨g,m*6+3,none⟩ v3).setCell ⟨g,m*6+4,none⟩ v4).setCell ⟨g,m*6+5,none⟩ v5) v.ownBlock:=
 grown_set1 (grown_set1 (grown_set1 (grown_set1 (grown_set1 (grown_set1 h hat _ _) hat _ _) hat _ _) hat _ _) hat _ _) hat _ _
end Go.Proofs.YtpfkhdlnjefikaaGreatDoor
