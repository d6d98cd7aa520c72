/- Package slices: Clone at numbers. Package term: twin: what holds at a round's head, and behind it. -/
import Derived.Test.YtpfkhdlnjefikaaGreatDoorQTermA
import Derived.Outline
import Derived.WalkSmall
set_option linter.unusedVariables false
set_option linter.unusedSimpArgs false
namespace Go.Proofs.YtpfkhdlnjefikaaGreatDoor
open Go.RowKit
theorem ints_one (k:IntKind) (xs:List Int):∀ u∈xs.map (Value.int k),u.oneCell'=true:=by
 intro u hu
 obtain ⟨n,_,rfl⟩:=List.mem_map.1 hu
 rfl
theorem Ints.news {w:World} {B len:Nat} {b o:Nat} {xs:List Int} (h:Ints w B (some ⟨b,o,none⟩) len xs):∀ j u,(xs.map (Value.int .i64))[j]? =some u->w.cell? ((⟨b,o,none⟩:Addr).add j)=some u:=by
 intro j u hu
 rw [List.getElem?_map] at hu
 cases hx:xs[j]? with
 |none=>rw [hx] at hu;cases hu
 |some v=>
  rw [hx] at hu
  simp at hu
  subst hu
  have hlt:=(List.getElem?_eq_some_iff.1 hx).1
  obtain ⟨b',o',e,hb,hc⟩:=h.2 (by have:=h.1;omega)
  cases e
  have:=hc j v hx
  by_cases h0:j=0
  ·subst h0;simpa [Addr.add] using this
  ·simpa [Addr.add,h0] using this
theorem ownI_of_row {w:World} {base ty:Nat} {b n cap:Nat} {xs:List Int} (h:w.ownsRow base ty 1 (.slice (some ⟨b,0,none⟩) n cap) n (xs.map (Value.int .i64))):OwnI w ty (some ⟨b,0,none⟩) n cap xs [b]/\base<=b/\b<w.heap.size/\cap<=maxLen/\n<=cap:=by
 have h':=h
 obtain ⟨hl,⟨h0,_⟩|⟨g,cap',cur,e,hg,hcur,h4,h5,h6,h7⟩⟩:=h
 ·cases h0
 ·cases e
  refine ⟨⟨by simpa using hl,.inr ⟨b,cur,rfl,rfl,hcur,h4,h5,by omega⟩,fun b' e i v hv=>?_⟩,hg,(Array.getElem?_eq_some_iff.1 hcur).1,h5,h4⟩
  cases e
  have hlt:=(List.getElem?_eq_some_iff.1 hv).1
  rw [h'.cellAt i (by simp at hl;omega),List.getElem?_map,hv]
  rfl
theorem info_int0:(Tryz.prog.info? 3).map (fun i=>(i.zero,i.size,i.bytes))=some (some (.int .i64 0),1,8):=by kernel_rfl
theorem info_int640:(Tryz.prog.info? 2).map (fun i=>(i.zero,i.size,i.bytes))=some (some (.int .i64 0),1,8):=by kernel_rfl
theorem grown_of_below {w w':World} (h:Below w.heap.size w w') (row:Option Nat):w.grownBy w' row:=⟨h.os,h.tape,h.output,h.size,fun k hk _=>h.block k hk⟩
def OwnK (w:World):List T->List TV->List Nat->Prop
 |[],[],F=>F=[]
 |t::l,y::ys,F=>∃ F1 F2,F=F1++F2/\Own w t y F1/\OwnK w l ys F2
 |_,_,_=>False
theorem OwnK.snoc {w:World} {t:T} {y:TV} {G:List Nat} (ht:Own w t y G):∀ {l:List T} {ys:List TV} {F:List Nat},OwnK w l ys F->OwnK w (l++[t]) (ys++[y]) (F++G)
 |[],[],F,h=>by
  have h:F=[]:=h
  subst h
  exact ⟨G,[],by simp,ht,rfl⟩
 |u::l,x::ys,F,h=>by
  obtain ⟨F1,F2,rfl,h1,h2⟩:=h
  exact ⟨F1,F2++G,by simp,h1,h2.snoc ht⟩
 |[],_::_,_,h=>h.elim
 |_::_,[],_,h=>h.elim
theorem OwnK.kept {w w':World}:∀ {l:List T} {ys:List TV} {F:List Nat},OwnK w l ys F->(∀ b∈F,w'.heap[b]? =w.heap[b]?)->OwnK w' l ys F
 |[],[],F,h,_=>h
 |u::l,x::ys,F,h,hk=>by
  obtain ⟨F1,F2,rfl,h1,h2⟩:=h
  exact ⟨F1,F2,rfl,Own.kept u x F1 h1 (fun b hb=>hk b (by simp [hb])),h2.kept (fun b hb=>hk b (by simp [hb]))⟩
 |[],_::_,_,h,_=>h.elim
 |_::_,[],_,h,_=>h.elim
theorem OwnK.len {w:World}:∀ {l:List T} {ys:List TV} {F:List Nat},OwnK w l ys F->ys.length=l.length
 |[],[],_,_=>rfl
 |u::l,x::ys,F,h=>by obtain ⟨F1,F2,_,_,h2⟩:=h;simp [h2.len]
 |[],_::_,_,h=>h.elim
 |_::_,[],_,h=>h.elim
def rowCells (ys:List TV):List Value:=ys.flatMap fun y=>y.cells.toList
theorem rowCells_snoc (ys:List TV) (y:TV):rowCells (ys++[y])=rowCells ys++y.cells.toList:=by simp [rowCells]
theorem rowCells_len (ys:List TV):(rowCells ys).length=ys.length*6:=by
 induction ys with
 |nil=>rfl
 |cons y ys ih=>
  have:rowCells (y::ys)=y.cells.toList++rowCells ys:=by simp [rowCells]
  rw [this,List.length_append,ih]
  simp [TV.cells];omega
theorem OwnK.laid {w:World} {b:Nat}:∀ {l:List T} {ys:List TV} {F:List Nat} (i:Nat),OwnK w l ys F->(∀ j u,(rowCells ys)[j]? =some u->w.cell? ⟨b,i*6+j,none⟩=some u)->OwnL w l (some ⟨b,0,none⟩) i F
 |[],[],F,_,h,_=>h
 |t::l,y::ys,F,i,h,hc=>by
  obtain ⟨F1,F2,rfl,h1,h2⟩:=h
  have e:rowCells (y::ys)=y.cells.toList++rowCells ys:=by simp [rowCells]
  have hat:At w b (i*6) y:=by
   constructor
   ·exact hc 0 _ (by rw [e];rfl)
   ·exact hc 1 _ (by rw [e];rfl)
   ·exact hc 2 _ (by rw [e];rfl)
   ·exact hc 3 _ (by rw [e];rfl)
   ·exact hc 4 _ (by rw [e];rfl)
   ·exact hc 5 _ (by rw [e];rfl)
  refine ⟨F1,F2,rfl,⟨b,y,rfl,hat,h1⟩,h2.laid (i+1) (fun j u hu=>?_)⟩
  have:=hc (6+j) u (by rw [e,List.getElem?_append_right (by simp [TV.cells])];simpa [TV.cells] using hu)
  rwa [show i*6+(6+j)=(i+1)*6+j from by omega] at this
 |[],_::_,_,_,h,_=>h.elim
 |_::_,[],_,_,h,_=>h.elim
structure Grows (w0:World) (base:Nat) (l:List T) (ys:List TV) (k:Nat) (v:Value) (wr:World) (FK:List Nat):Prop where
 below:Below base w0 wr
 hbase:base<=wr.heap.size
 row:wr.ownsRow base 34 6 v k (rowCells ys)
 kids:OwnK wr (l.take k) ys FK
 fresh:Fresh base wr.heap.size FK
 apart:∀ g,v.ownBlock=some g->g ∉ FK
theorem Grows.start (w0:World) (l:List T):Grows w0 w0.heap.size l [] 0 (.slice none 0 0) w0 []:=
 ⟨Below.refl _ _,Nat.le_refl _,World.ownsRow_nil _ _ _ _,rfl,Fresh.nil _ _,fun g h=>by cases h⟩
theorem Grows.kept {w0 wr w2:World} {base k:Nat} {l:List T} {ys:List TV} {v:Value} {FK:List Nat} (h:Grows w0 base l ys k v wr FK) (hb:Below wr.heap.size wr w2):Grows w0 base l ys k v w2 FK:=by
 obtain ⟨h1,h2,h3,h4,h5,h6⟩:=h
 exact ⟨h1.trans (hb.mono h2),Nat.le_trans h2 hb.size,h3.kept (grown_of_below hb none) (by cases h:v.ownBlock<;>simp),h4.kept (fun b hb'=>hb.block b (h5.hi b hb')),h5.mono (Nat.le_refl _) hb.size,h6⟩
theorem Grows.step {w0 wr wb w3:World} {base k:Nat} {l:List T} {ys:List TV} {v v':Value} {FK G:List Nat} {u:T} {y:TV} (h:Grows w0 base l ys k v wr FK) (hu:l[k]? =some u)
 (hb:Below wr.heap.size wr wb) (hy:Own wb u y G) (hG:Fresh wr.heap.size wb.heap.size G) (hg:wb.grownBy w3 v.ownBlock)
 (hown:w3.ownsRow base 34 6 v' (k+1) (rowCells ys++y.cells.toList))
 (hloc:v'.ownBlock=v.ownBlock\/v'.ownBlock=some wb.heap.size):Grows w0 base l (ys++[y]) (k+1) v' w3 (FK++G):=by
 have hv:=h.row.lt
 obtain ⟨h1,h2,h3,h4,h5,h6⟩:=h.kept hb
 have hold:=h.fresh
 have hap:∀ c∈FK++G,w3.heap[c]? =wb.heap[c]? :=by
  intro c hc
  refine hg.block c ?_ ?_
  ·rcases List.mem_append.1 hc with hc|hc
   ·exact h5.hi c hc
   ·exact hG.hi c hc
  ·intro e
   rcases List.mem_append.1 hc with hc|hc
   ·exact h6 c e.symm hc
   ·have:=(hv c e.symm).2
    have:=hG.lo c hc
    omega
 refine ⟨h1.grown hg h2 (fun g e=>(hv g e).1),Nat.le_trans h2 hg.size,?_,?_,?_,?_⟩
 ·rw [rowCells_snoc];exact hown
 ·rw [List.take_add_one,hu]
  exact (h4.kept (fun b hb'=>hap b (by simp [hb']))).snoc (Own.kept u y G hy (fun b hb'=>hap b (by simp [hb'])))
 ·exact (hold.app hG h.hbase hb.size).mono (Nat.le_refl _) hg.size
 ·intro g e hm
  rcases hloc with hl|hl
  ·rw [hl] at e
   rcases List.mem_append.1 hm with hm|hm
   ·exact h6 g e hm
   ·have:=(hv g e).2
    have:=hG.lo g hm
    omega
  ·rw [hl] at e
   cases e
   rcases List.mem_append.1 hm with hm|hm
   ·have:=h5.hi _ hm;omega
   ·have:=hG.hi _ hm;omega
theorem row_new (w:World) (cs:Array Value) (ty:TypeId):∀ j u,cs.toList[j]? =some u->(w.alloc (.cells cs ty)).cell? ((⟨w.heap.size,0,none⟩:Addr).add j)=some u:=by
 intro j u hu
 have:cs[j]? =some u:=by simpa using hu
 by_cases h0:j=0
 ·subst h0;simp [Addr.add,this]
 ·simp [Addr.add,h0,this]
theorem cells_one (y:TV):∀ u∈y.cells.toList,u.oneCell'=true:=by
 intro u hu
 simp only [TV.cells,List.mem_cons,List.not_mem_nil,or_false] at hu
 rcases hu with rfl|rfl|rfl|rfl|rfl|rfl<;>rfl
theorem Grows.ends {w0 wr:World} {base:Nat} {l:List T} {ys:List TV} {k:Nat} {v:Value} {FK:List Nat} (h:Grows w0 base l ys k v wr FK) (hk:k=l.length):
 ∃ A c F3,v=.slice A k c/\OwnB wr 34 6 A k k F3/\OwnL wr l A 0 FK/\Fresh base wr.heap.size (F3++FK)/\k<=c/\c<=maxLen/\(A=none->c=0/\k=0)/\(∀ g,A=some g->∃ b,A=some ⟨b,0,none⟩):=by
 obtain ⟨h1,h2,h3,h4,h5,h6⟩:=h
 subst hk
 rw [List.take_length] at h4
 have h3':=h3
 obtain ⟨hl,⟨rfl,h0⟩|⟨g,cap,cur,rfl,hg,hcur,hn,hc,hs,ht⟩⟩:=h3
 ·have hl0:l=[]:=List.eq_nil_of_length_eq_zero h0
  subst hl0
  have hys:ys=[]:=by have:=h4.len;exact List.eq_nil_of_length_eq_zero this
  subst hys
  have hF:FK=[]:=h4
  subst hF
  exact ⟨none,0,[],rfl,.inl ⟨rfl,rfl,rfl⟩,rfl,Fresh.nil _ _,Nat.le_refl _,Nat.zero_le _,fun _=>⟨rfl,rfl⟩,fun g e=>by cases e⟩
 ·refine ⟨some ⟨g,0,none⟩,cap,[g],rfl,.inr ⟨g,cur,rfl,rfl,hcur,Nat.le_refl _,Nat.le_trans hn hc,?_⟩,?_,?_,hn,hc,(fun e=>by cases e),(fun _ _=>⟨g,rfl⟩)⟩
  ·rw [hs];exact Nat.mul_le_mul_right _ hn
  ·refine h4.laid 0 (fun j u hu=>?_)
   rw [Nat.zero_mul,Nat.zero_add,h3'.cellAt j (by have:=(List.getElem?_eq_some_iff.1 hu).1;omega)]
   exact hu
  ·refine ⟨?_,?_,?_⟩
   ·rw [List.nodup_append]
    refine ⟨by simp,h5.nodup,?_⟩
    intro a ha b hb e
    have hbg:b=g:=by rw [<-e];simpa using ha
    rw [hbg] at hb
    exact h6 g rfl hb
   ·intro b hb
    rcases List.mem_append.1 hb with hb|hb
    ·simp at hb;subst hb;exact hg
    ·exact h5.lo b hb
   ·intro b hb
    rcases List.mem_append.1 hb with hb|hb
    ·simp at hb;subst hb;exact (Array.getElem?_eq_some_iff.1 hcur).1
    ·exact h5.hi b hb
structure Box (w:World) (b:Nat) (x:TV):Prop where
 c0:w.cell? ⟨b,0,none⟩=some (.int .i64 x.kind)
 c1:w.cell? ⟨b,1,none⟩=some (.string x.text)
 c2:w.cell? ⟨b,2,none⟩=some (.int .i64 x.n)
 c3:w.cell? ⟨b,3,none⟩=some (.slice x.sa x.sl x.sc)
 c4:w.cell? ⟨b,4,none⟩=some (.slice x.aa x.al x.ac)
 c5:w.cell? ⟨b,5,none⟩=some (.slice x.ka x.kl x.kc)
 f:∀ o,w.frozen? ⟨b,o,none⟩=false
theorem Box.new (w:World) (x:TV) (ty:TypeId):Box (w.alloc (.cells x.cells ty)) w.heap.size x:=by
 constructor<;>simp [TV.cells]
theorem Box.below {w w':World} {b B:Nat} {x:TV} (h:Box w b x) (hb:Below B w w') (hlt:b<B):Box w' b x:=by
 have hc:=fun o=>hb.cell (p:=⟨b,o,none⟩) hlt
 exact ⟨(hc _).trans h.c0,(hc _).trans h.c1,(hc _).trans h.c2,(hc _).trans h.c3,(hc _).trans h.c4,(hc _).trans h.c5,fun o=>(hb.frozen (p:=⟨b,o,none⟩) hlt).trans (h.f o)⟩
theorem Box.alloc {w:World} {b:Nat} {x:TV} (h:Box w b x) (o:Obj):Box (w.alloc o) b x:=
 h.below ((Below.refl (b+1) w).alloc (World.block_lt_of_cell? w _ h.c0) o) (Nat.lt_succ_self b)
theorem Box.lt {w:World} {b:Nat} {x:TV} (h:Box w b x):b<w.heap.size:=World.block_lt_of_cell? w _ h.c0
theorem Box.other {w:World} {b b' o:Nat} {x:TV} (h:Box w b x) (hne:b≠b') (v:Value):Box (w.setCell ⟨b',o,none⟩ v) b x:=by
 have hk:=Below.heap_setCell w ⟨b',o,none⟩ v b hne
 exact ⟨(cell_of_heap hk).trans h.c0,(cell_of_heap hk).trans h.c1,(cell_of_heap hk).trans h.c2,(cell_of_heap hk).trans h.c3,(cell_of_heap hk).trans h.c4,(cell_of_heap hk).trans h.c5,fun o=>(World.frozen?_of_block (a:=⟨b,o,none⟩) hk).trans (h.f o)⟩
theorem Box.set3 {w:World} {b:Nat} {x:TV} (h:Box w b x) (A:Option Addr) (n c:Nat):Box (w.setCell ⟨b,3,none⟩ (.slice A n c)) b { x with sa:=A,sl:=n,sc:=c }:=by
 obtain ⟨h0,h1,h2,h3,h4,h5,hf⟩:=h
 constructor<;>simp [h0,h1,h2,h3,h4,h5,hf,go_sem]
theorem Box.set4 {w:World} {b:Nat} {x:TV} (h:Box w b x) (A:Option Addr) (n c:Nat):Box (w.setCell ⟨b,4,none⟩ (.slice A n c)) b { x with aa:=A,al:=n,ac:=c }:=by
 obtain ⟨h0,h1,h2,h3,h4,h5,hf⟩:=h
 constructor<;>simp [h0,h1,h2,h3,h4,h5,hf,go_sem]
theorem Box.set5 {w:World} {b:Nat} {x:TV} (h:Box w b x) (A:Option Addr) (n c:Nat):Box (w.setCell ⟨b,5,none⟩ (.slice A n c)) b { x with ka:=A,kl:=n,kc:=c }:=by
 obtain ⟨h0,h1,h2,h3,h4,h5,hf⟩:=h
 constructor<;>simp [h0,h1,h2,h3,h4,h5,hf,go_sem]
def zeroTV:TV:=⟨0,⟨#[]⟩,0,none,0,0,none,0,0,none,0,0⟩
end Go.Proofs.YtpfkhdlnjefikaaGreatDoor
