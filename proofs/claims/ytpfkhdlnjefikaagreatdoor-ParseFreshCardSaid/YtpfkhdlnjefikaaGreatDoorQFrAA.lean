/- Terms that the law has laid: each list in a block of its own, marks behind it. append of a list of numbers, nil included: laws for the walk. Lemmas out of the Expand texts that the Book and the Shelf take. The law's own functions: weigh, Light. A row that is owned: its value's form. -/
import Derived.Test.YtpfkhdlnjefikaaGreatDoorQPyAX
set_option linter.unusedVariables false
set_option linter.unusedSimpArgs false
namespace Go.Proofs.YtpfkhdlnjefikaaGreatDoor
open Go.RowKit
structure MarkI (w:World) (ty:Nat) (A:Option Addr) (len cap:Nat) (xs:List Int) (m1 m2:Int) (b:Nat):Prop where
 lens:xs.length=len
 adr:A=some ⟨b,0,none⟩
 room:len+2<=cap
 max:cap<=maxLen
 blk:∃ cur,w.heap[b]? =some (.cells cur ty (0,0))/\cap<=cur.size
 at_:∀ (i:Nat) (v:Int),(xs++[m1,m2])[i]? =some v->w.cell? ⟨b,i,none⟩=some (.int .i64 v)
def markTV (k:Int):TV:=⟨k,⟨#[]⟩,0,none,0,0,none,0,0,none,0,0⟩
structure MarkK (w:World) (A:Option Addr) (len cap b:Nat):Prop where
 adr:A=some ⟨b,0,none⟩
 room:len+2<=cap
 max:cap<=maxLen
 blk:∃ cur,w.heap[b]? =some (.cells cur 34 (0,0))/\cap*6<=cur.size
 m1:At w b (len*6) (markTV (-75))
 m2:At w b ((len+1)*6) (markTV (-76))
mutual
def Laid (w:World):T->TV->List Nat->Prop
 |.mk k s n sh a l,x,F=>Wee x/\x.kind=k/\x.text=s/\x.n=n/\x.kl=l.length/\
  ∃ b1 b2 b3 F4,F=b1::b2::b3::F4/\MarkI w 3 x.sa x.sl x.sc sh (-71) (-72) b1/\MarkI w 2 x.aa x.al x.ac a (-73) (-74) b2/\MarkK w x.ka x.kl x.kc b3/\LaidL w l b3 0 F4
def LaidL (w:World):List T->Nat->Nat->List Nat->Prop
 |[],_,_,F=>F=[]
 |t::l,b,i,F=>∃ F1 F2,F=F1++F2/\(∃ x,At w b (i*6) x/\Laid w t x F1)/\LaidL w l b (i+1) F2
end
theorem MarkI.kept {w w':World} {ty:Nat} {A:Option Addr} {len cap:Nat} {xs:List Int} {m1 m2:Int} {b:Nat} (h:MarkI w ty A len cap xs m1 m2 b) (hk:w'.heap[b]? =w.heap[b]?):MarkI w' ty A len cap xs m1 m2 b:=by
 obtain ⟨h1,h2,h3,h4,⟨cur,h5,h6⟩,h7⟩:=h
 exact ⟨h1,h2,h3,h4,⟨cur,hk.trans h5,h6⟩,fun i v hv=>(cell_of_heap hk).trans (h7 i v hv)⟩
theorem MarkK.kept {w w':World} {A:Option Addr} {len cap b:Nat} (h:MarkK w A len cap b) (hk:w'.heap[b]? =w.heap[b]?):MarkK w' A len cap b:=by
 obtain ⟨h1,h2,h3,⟨cur,h4,h5⟩,h6,h7⟩:=h
 exact ⟨h1,h2,h3,⟨cur,hk.trans h4,h5⟩,h6.kept hk,h7.kept hk⟩
theorem LaidL.keptAll {w w':World} (l:List T) (ih:∀ t∈l,∀ x F,Laid w t x F->(∀ b∈F,w'.heap[b]? =w.heap[b]?)->Laid w' t x F) (b:Nat) (hb:l≠[]->w'.heap[b]? =w.heap[b]?):
 ∀ (i:Nat) (F:List Nat),LaidL w l b i F->(∀ b∈F,w'.heap[b]? =w.heap[b]?)->LaidL w' l b i F:=by
 induction l with
 |nil=>exact fun _ _ h _=>h
 |cons t l ihl=>
  intro i F h hk
  obtain ⟨F1,F2,rfl,⟨x,hat,ho⟩,hr⟩:=h
  refine ⟨F1,F2,rfl,⟨x,hat.kept (hb (by simp)),ih t (by simp) x F1 ho (fun c hc=>hk c (by simp [hc]))⟩,?_⟩
  exact ihl (fun u hu=>ih u (by simp [hu])) (fun _=>hb (by simp)) (i+1) F2 hr (fun c hc=>hk c (by simp [hc]))
theorem Laid.kept {w w':World} (t:T):∀ (x:TV) (F:List Nat),Laid w t x F->(∀ b∈F,w'.heap[b]? =w.heap[b]?)->Laid w' t x F:=by
 refine T.ind (P:=fun t=>∀ (x:TV) (F:List Nat),Laid w t x F->(∀ b∈F,w'.heap[b]? =w.heap[b]?)->Laid w' t x F) ?_ t
 intro k s n sh a l ih x F h hk
 simp only [Laid] at h ⊢
 obtain ⟨h1,h2,h3,h4,h5,b1,b2,b3,F4,rfl,h6,h7,h8,h9⟩:=h
 refine ⟨h1,h2,h3,h4,h5,b1,b2,b3,F4,rfl,h6.kept (hk b1 (by simp)),h7.kept (hk b2 (by simp)),h8.kept (hk b3 (by simp)),?_⟩
 exact LaidL.keptAll l ih b3 (fun _=>hk b3 (by simp)) 0 F4 h9 (fun b hb=>hk b (by simp [hb]))
theorem LaidL.kept {w w':World} {l:List T} {b i:Nat} {F:List Nat} (h:LaidL w l b i F) (hb:w'.heap[b]? =w.heap[b]?) (hk:∀ b∈F,w'.heap[b]? =w.heap[b]?):LaidL w' l b i F:=
 LaidL.keptAll l (fun t _ x F=>Laid.kept t x F) b (fun _=>hb) i F h hk
theorem MarkI.ints {w:World} {ty:Nat} {A:Option Addr} {len cap:Nat} {xs:List Int} {m1 m2:Int} {b B:Nat} (h:MarkI w ty A len cap xs m1 m2 b) (hB:b<B):Ints w B A len xs:=
 ⟨h.lens,fun _=>⟨b,0,h.adr,hB,fun i v hv=>by
  rw [Nat.zero_add]
  exact h.at_ i v (by rw [List.getElem?_append_left (List.getElem?_eq_some_iff.1 hv).1];exact hv)⟩⟩
theorem LaidL.rep {w:World} {B:Nat} (l:List T) (ih:∀ t∈l,∀ x F,Laid w t x F->(∀ b∈F,b<B)->Rep w B t x) (b:Nat) (hb:b<B):
 ∀ (i:Nat) (F:List Nat),LaidL w l b i F->(∀ b∈F,b<B)->RepL w B l (some ⟨b,0,none⟩) i:=by
 induction l with
 |nil=>exact fun _ _ _ _=>trivial
 |cons t l ihl=>
  intro i F h hk
  obtain ⟨F1,F2,rfl,⟨x,hat,ho⟩,hr⟩:=h
  refine ⟨⟨b,0,x,rfl,hb,by rw [Nat.zero_add];exact hat,ih t (by simp) x F1 ho (fun c hc=>hk c (by simp [hc]))⟩,?_⟩
  exact ihl (fun u hu=>ih u (by simp [hu])) (i+1) F2 hr (fun c hc=>hk c (by simp [hc]))
theorem Laid.rep {w:World} {B:Nat} (t:T):∀ (x:TV) (F:List Nat),Laid w t x F->(∀ b∈F,b<B)->Rep w B t x:=by
 refine T.ind (P:=fun t=>∀ (x:TV) (F:List Nat),Laid w t x F->(∀ b∈F,b<B)->Rep w B t x) ?_ t
 intro k s n sh a l ih x F h hk
 simp only [Laid] at h
 obtain ⟨h1,h2,h3,h4,h5,b1,b2,b3,F4,rfl,h6,h7,h8,h9⟩:=h
 refine ⟨h1,h2,h3,h4,h6.ints (hk b1 (by simp)),h7.ints (hk b2 (by simp)),h5,?_⟩
 rw [h8.adr]
 exact LaidL.rep l ih b3 (hk b3 (by simp)) 0 F4 h9 (fun b hb=>hk b (by simp [hb]))
theorem LaidL.get {w:World} {b:Nat}:∀ {l:List T} {i:Nat} {F:List Nat},LaidL w l b i F->∀ {j:Nat} {u:T},l[j]? =some u->∃ Fa Fj Fb y,F=Fa++(Fj++Fb)/\At w b ((i+j)*6) y/\Laid w u y Fj/\LaidL w (l.drop (j+1)) b (i+j+1) Fb
 |t::l,i,F,h,0,u,hj=>by
  obtain ⟨F1,F2,rfl,⟨x,hat,ho⟩,hr⟩:=h
  simp at hj
  subst hj
  exact ⟨[],F1,F2,x,rfl,hat,ho,hr⟩
 |t::l,i,F,h,j+1,u,hj=>by
  obtain ⟨F1,F2,rfl,⟨x,hat,ho⟩,hr⟩:=h
  obtain ⟨Fa,Fj,Fb,y,rfl,h1,h2,h3⟩:=LaidL.get hr (j:=j) (by simpa using hj)
  refine ⟨F1++Fa,Fj,Fb,y,by simp,?_,h2,?_⟩
  ·rwa [show i+(j+1)=i+1+j from by omega]
  ·rw [show i+(j+1)+1=i+1+j+1 from by omega];exact h3
 |[],_,_,_,_,_,hj=>by simp at hj
structure Outside (F:List Nat) (w w':World):Prop where
 os:w'.os=w.os
 tape:w'.tape=w.tape
 output:w'.output=w.output
 size:w.heap.size<=w'.heap.size
 block:∀ b,b<w.heap.size->b ∉ F->w'.heap[b]? =w.heap[b]?
theorem Outside.refl (F:List Nat) (w:World):Outside F w w:=⟨rfl,rfl,rfl,Nat.le_refl _,fun _ _ _=>rfl⟩
theorem Outside.of_below {F:List Nat} {w w':World} (h:Below w.heap.size w w'):Outside F w w':=⟨h.os,h.tape,h.output,h.size,fun b hb _=>h.block b hb⟩
theorem Outside.trans {F:List Nat} {a b c:World} (h:Outside F a b) (k:Outside F b c):Outside F a c:=
 ⟨k.os.trans h.os,k.tape.trans h.tape,k.output.trans h.output,Nat.le_trans h.size k.size,fun x hx hF=>(k.block x (Nat.lt_of_lt_of_le hx h.size) hF).trans (h.block x hx hF)⟩
theorem Outside.mono {F G:List Nat} {a b:World} (h:Outside F a b) (hs:∀ x∈F,x∈G):Outside G a b:=
 ⟨h.os,h.tape,h.output,h.size,fun x hx hG=>h.block x hx (fun hF=>hG (hs x hF))⟩
theorem Outside.set {F:List Nat} {a b:World} (h:Outside F a b) {p:Addr} (hp:p.block∈F\/a.heap.size<=p.block) (v:Value):Outside F a (b.setCell p v):=
 ⟨h.os,h.tape,h.output,by simpa [World.setCell] using h.size,fun x hx hF=>(Below.heap_setCell b p v x (by
  rintro rfl
  rcases hp with hp|hp
  ·exact hF hp
  ·omega)).trans (h.block x hx hF)⟩
theorem Outside.alloc {F:List Nat} {a b:World} (h:Outside F a b) (o:Obj):Outside F a (b.alloc o):=
 h.trans (Outside.of_below ((Below.refl _ _).alloc (Nat.le_refl _) _))
theorem Outside.below {F:List Nat} {B:Nat} {a b c:World} (h:Below B a b) (k:Outside F b c) (hF:∀ x∈F,B<=x) (hB:B<=b.heap.size):Below B a c:=
 ⟨k.os.trans h.os,k.tape.trans h.tape,k.output.trans h.output,Nat.le_trans h.size k.size,fun x hx=>
  (k.block x (by omega) (fun hm=>by have:=hF x hm;omega)).trans (h.block x hx)⟩
section
variable {P:Program} {w:World}
theorem run_append_zero (base:Nat) (t ty e:TypeId) (i:TypeInfo) (size c:Nat) (ht:P.underlying t=some (.slice e)) (hi:P.info? e=some i)
 (v:Value) (n:Nat) (xs:List Value) (hown:w.ownsRow base e size v n xs):
 (Builtin.append_ #[t,t] ty #[v,.slice none 0 c]).run P w=.ok v w:=by
 rcases hown.2 with ⟨rfl,rfl⟩|⟨g,cap,cur,rfl,_,_,hnc,_⟩
 ·simp [Builtin.append_,run_underlying ht,sizeOf,typeInfo,hi,Builtin.lenOf,Builtin.firstCells]
 ·simp [Builtin.append_,run_underlying ht,sizeOf,typeInfo,hi,Builtin.lenOf,Builtin.firstCells,hnc,storeCells]
theorem run_append_ints (base:Nat) (t ty e:TypeId) (i:TypeInfo) (z:Value) (ht:P.underlying t=some (.slice e)) (hi:P.info? e=some i) (hz:i.zero=some z)
 (hsize:i.size=1) (hby:i.bytes=8) (hzs:z.cells.size=1) (v:Value) (n:Nat) (xs:List Value) (hown:w.ownsRow base e 1 v n xs)
 (A:Option Addr) (m c B:Nat) (ys:List Int) (hI:Ints w B A m ys) (h63:n+m<=maxLen) (hbytes:(n+m)*8<=140737488355328) (hbase:base<=w.heap.size):
 ∃ v' w',(Builtin.append_ #[t,t] ty #[v,.slice A m c]).run P w=.ok v' w'/\w'.ownsRow base e 1 v' (n+m) (xs++ys.map (Value.int .i64))/\w.grownBy w' v.ownBlock/\(v'.ownBlock=v.ownBlock\/v'.ownBlock=some w.heap.size):=by
 cases A with
 |none=>
  obtain rfl:m=0:=by
   by_cases h0:m=0
   ·exact h0
   ·obtain ⟨b,o,e,_⟩:=hI.2 (by omega);cases e
  obtain rfl:ys=[]:=List.eq_nil_of_length_eq_zero hI.1
  exact ⟨v,w,run_append_zero base t ty e i 1 c ht hi v n xs hown,by simpa using hown,World.grownBy.refl _ _,.inl rfl⟩
 |some a=>
  have hnews:∀ j u,(ys.map (Value.int .i64))[j]? =some u->w.cell? (a.add j)=some u:=by
   by_cases h0:m=0
   ·obtain rfl:ys=[]:=List.eq_nil_of_length_eq_zero (hI.1.trans h0)
    intro j u hu;simp at hu
   ·obtain ⟨b,o,e,_⟩:=hI.2 (by omega)
    cases e
    exact hI.news
  obtain ⟨v',w',h1,h2,h3,_,h5⟩:=run_append_own_at (P:=P) w base t ty e i z 1 8 ht hi hz hsize hby hzs (by decide) v n xs hown a m c (ys.map (Value.int .i64)) (by rw [List.length_map,hI.1];omega) hnews (ints_one _ _) h63 hbytes hbase
  exact ⟨v',w',h1,h2,h3,h5⟩
theorem wp_append_ints {o:Oper} {a:Act} {K:Act->World->Prop} {Q:Exit->Act->World->Prop} (s x:Operand) (t:TypeId)
 (ho:o.op=.call { callee:=.builtin .append,args:=#[s,x],argTypes:=#[t,t] })
 (base:Nat) (e:TypeId) (i:TypeInfo) (z:Value) (ht:P.underlying t=some (.slice e)) (hi:P.info? e=some i) (hz:i.zero=some z)
 (hsize:i.size=1) (hby:i.bytes=8) (hzs:z.cells.size=1) (v:Value) (n:Nat) (xs:List Value) (hs:a.eval s=v) (hown:w.ownsRow base e 1 v n xs)
 (A:Option Addr) (m c B:Nat) (ys:List Int) (hx:a.eval x=.slice A m c) (hI:Ints w B A m ys) (h63:n+m<=maxLen) (hbytes:(n+m)*8<=140737488355328) (hbase:base<=w.heap.size)
 (h:∀ v' w',w'.ownsRow base e 1 v' (n+m) (xs++ys.map (Value.int .i64))->w.grownBy w' v.ownBlock->(v'.ownBlock=v.ownBlock\/v'.ownBlock=some w.heap.size)->K (a.put o.dst v') w'):
 Oper.wp P o a w K Q:=by
 obtain ⟨v',w',hr,h2,h3,h4⟩:=run_append_ints (P:=P) base t o.type e i z ht hi hz hsize hby hzs v n xs hown A m c B ys hI h63 hbytes hbase
 unfold Oper.wp execOp
 simp only [ho,resolve,invoke,builtin,Sem.run_bind,Sem.run_pure,Result.andThen_ok,List.map_toArray,List.map_cons,List.map_nil,hs,hx,hr]
 exact h v' w' h2 h3 h4
theorem step_append_ints {ops:Array Oper} {o:Oper} {a:Act} {K:Act->World->Prop} {Q:Exit->Act->World->Prop} {E:Prop} (hgd:o.guard=none) (s x:Operand) (t:TypeId)
 (ho:o.op=.call { callee:=.builtin .append,args:=#[s,x],argTypes:=#[t,t] })
 (base:Nat) (e:TypeId) (i:TypeInfo) (z:Value) (ht:P.underlying t=some (.slice e)) (hi:P.info? e=some i) (hz:i.zero=some z)
 (hsize:i.size=1) (hby:i.bytes=8) (hzs:z.cells.size=1) (v:Value) (n:Nat) (xs:List Value) (hs:a.eval s=v) (hown:w.ownsRow base e 1 v n xs)
 (A:Option Addr) (m c B:Nat) (ys:List Int) (hx:a.eval x=.slice A m c) (hI:Ints w B A m ys) (h63:n+m<=maxLen) (hbytes:(n+m)*8<=140737488355328) (hbase:base<=w.heap.size)
 (h:∀ v' w',w'.ownsRow base e 1 v' (n+m) (xs++ys.map (Value.int .i64))->w.grownBy w' v.ownBlock->(v'.ownBlock=v.ownBlock\/v'.ownBlock=some w.heap.size)->K (a.put o.dst v') w'):
 if Region.wanted o (yielded ops a.tmps)=true then Oper.wp P o a w K Q else E:=by
 have hw:Region.wanted o (yielded ops a.tmps)=true:=by simp [Region.wanted,hgd]
 rw [if_pos hw]
 exact wp_append_ints s x t ho base e i z ht hi hz hsize hby hzs v n xs hs hown A m c B ys hx hI h63 hbytes hbase h
end
theorem row_form {w:World} {base e n:Nat} {v:Value} {xs:List Int} (h:w.ownsRow base e 1 v n (xs.map (Value.int .i64))):
 ∃ A c,v=.slice A n c/\n<=c/\c<=maxLen/\∀ S:Nat->Prop,(∀ g,v.ownBlock=some g->S g)->xs.length=n/\(0<n->∃ b o,A=some ⟨b,o,none⟩/\S b/\∀ (i:Nat) (u:Int),xs[i]? =some u->w.cell? ⟨b,o+i,none⟩=some (.int .i64 u)):=by
 have h':=h
 obtain ⟨hl,⟨rfl,rfl⟩|⟨g,cap,cur,rfl,hg,hcur,h4,h5,h6,h7⟩⟩:=h
 ·exact ⟨none,0,rfl,Nat.le_refl _,Nat.zero_le _,fun _ _=>⟨by simpa using hl,fun h=>absurd h (by omega)⟩⟩
 ·refine ⟨some ⟨g,0,none⟩,cap,rfl,h4,h5,fun S hS=>⟨by simpa using hl,fun _=>⟨g,0,rfl,hS g rfl,fun i u hu=>?_⟩⟩⟩
  have hlt:=(List.getElem?_eq_some_iff.1 hu).1
  rw [Nat.zero_add,h'.cellAt i (by simp at hl;omega),List.getElem?_map,hu]
  rfl
theorem info_term0:(Tryz.prog.info? 34).map (fun i=>(i.zero,i.size,i.bytes))=some (some (.agg #[.int .i64 0,.string ⟨#[]⟩,.int .i64 0,.slice none 0 0,.slice none 0 0,.slice none 0 0]),6,104):=by kernel_rfl
theorem T.length_le_nodes (l:List T):l.length<=T.nodesL l:=by
 induction l with
 |nil=>exact Nat.zero_le _
 |cons t l ih=>have:=T.nodes_pos t;simp only [List.length_cons,T.nodesL];omega
def RowAt (w:World) (g:Nat) (ys:List TV):Prop:=w.heap[g]? =some (.cells (rowCells ys).toArray 34 (0,0))
theorem RowAt.below {w w':World} {g B:Nat} {ys:List TV} (h:RowAt w g ys) (hb:Below B w w') (hg:g<B):RowAt w' g ys:=(hb.block g hg).trans h
theorem RowAt.cell {w:World} {g:Nat} {ys:List TV} (h:RowAt w g ys) (j:Nat) (u:Value) (hu:(rowCells ys)[j]? =some u):w.cell? ⟨g,j,none⟩=some u:=by
 unfold RowAt at h
 simp [World.cell?,h,hu]
theorem Box.drew {w:World} {b:Nat} {x:TV} (h:Box w b x):Box w.drew b x:=⟨h.c0,h.c1,h.c2,h.c3,h.c4,h.c5,h.f⟩
theorem Own.later {w w':World} {t:T} {x:TV} {F:List Nat} {B:Nat} (h:Own w t x F) (hF:∀ c∈F,c<B) (hb:Below B w w'):Own w' t x F:=Own.kept t x F h (fun c hc=>hb.block c (hF c hc))
abbrev two (w:World) (x:TV):World:=(w.alloc (.cells #[.int .i64 x.kind,.string x.text,.int .i64 x.n,.slice x.sa x.sl x.sc,.slice x.aa x.al x.ac,.slice x.ka x.kl x.kc] 34)).alloc (.cells #[.int .i64 0,.string ⟨#[]⟩,.int .i64 0,.slice none 0 0,.slice none 0 0,.slice none 0 0] 34)
theorem two_below (w:World) (x:TV):Below w.heap.size w (two w x):=by go_grown
theorem two_box (w:World) (x:TV):Box (two w x) w.heap.size x:=(Box.new w x 34).alloc _
theorem two_res (w:World) (x:TV):Box (two w x) (w.heap.size+1) zeroTV:=by
 have:=Box.new (w.alloc (.cells x.cells 34)) zeroTV 34
 simpa [zeroTV,TV.cells] using this
theorem two_size (w:World) (x:TV):(two w x).heap.size=w.heap.size+2:=by simp
theorem Grows.set {w0 wr:World} {base k tb o:Nat} {l:List T} {ys:List TV} {v:Value} {FK:List Nat} (h:Grows w0 base l ys k v wr FK) (ht:tb<base) (x:Value):Grows (wr.setCell ⟨tb,o,none⟩ x) base l ys k v (wr.setCell ⟨tb,o,none⟩ x) FK:=by
 obtain ⟨h1,h2,h3,h4,h5,h6⟩:=h
 have hlt:=h3.lt
 have hs:(wr.setCell ⟨tb,o,none⟩ x).heap.size=wr.heap.size:=by simp [World.setCell]
 refine ⟨Below.refl _ _,by rw [hs];exact h2,h3.kept (grown_set wr tb o x) ?_,h4.kept (fun b hb=>Below.heap_setCell _ _ _ _ (fun e=>?_)),by rw [hs];exact h5,h6⟩
 ·cases hv:v.ownBlock with
  |none=>exact .inl rfl
  |some g=>exact .inr (by have:=(hlt g hv).1;simp;omega)
 ·simp only at e
  have:=h5.lo b hb
  omega
theorem Grows.drew {w0 wr:World} {base k:Nat} {l:List T} {ys:List TV} {v:Value} {FK:List Nat} (h:Grows w0 base l ys k v wr FK):Grows w0 base l ys k v wr.drew FK:=
 ⟨h.below.drew,h.hbase,h.row,h.kids.kept (fun _ _=>rfl),h.fresh,h.apart⟩
theorem Box.grown {w w':World} {b:Nat} {x:TV} {row:Option Nat} (h:Box w b x) (hg:w.grownBy w' row) (hne:some b≠row):Box w' b x:=
 ⟨hg.cell h.c0 hne,hg.cell h.c1 hne,hg.cell h.c2 hne,hg.cell h.c3 hne,hg.cell h.c4 hne,hg.cell h.c5 hne,fun o=>(World.frozen?_of_block (a:=⟨b,o,none⟩) (hg.block b h.lt hne)).trans (h.f o)⟩
theorem At.later {w W:World} {b o B:Nat} {x:TV} (h:At w b o x) (hb:b<B) (hB:B<=w.heap.size) (hw:Below w.heap.size w W):At W b o x:=h.keep hb (Keeps.of_below hw hB)
theorem size_later {t:T} {x:TV} {B:Nat} {w W:World} (hr:Rep w B t x) (hB:B<=w.heap.size) (hb:Below w.heap.size w W):
 Calls Tryz.prog 35 #[.agg #[.int .i64 x.kind,.string x.text,.int .i64 x.n,.slice x.sa x.sl x.sc,.slice x.aa x.al x.ac,.slice x.ka x.kl x.kc]] W fun e w'=>e=.returned (.tuple #[.int .i64 (t.sizeN:Int),.int .i64 (t.sizeD:Int)])/\Below W.heap.size W w':=
 size_calls t x B W (hr.below hb hB) (Nat.le_trans hB hb.size)
def IntsS (w:World) (S:Nat->Prop) (A:Option Addr) (len:Nat) (xs:List Int):Prop:=
 xs.length=len/\(0<len->∃ b o,A=some ⟨b,o,none⟩/\S b/\∀ (i:Nat) (v:Int),xs[i]? =some v->w.cell? ⟨b,o+i,none⟩=some (.int .i64 v))
mutual
def RepS (w:World) (S:Nat->Prop):T->TV->Prop
 |.mk k s n sh a l,x=>Wee x/\x.kind=k/\x.text=s/\x.n=n/\IntsS w S x.sa x.sl sh/\IntsS w S x.aa x.al a/\x.kl=l.length/\RepSL w S l x.ka 0
def RepSL (w:World) (S:Nat->Prop):List T->Option Addr->Nat->Prop
 |[],_,_=>True
 |t::l,A,i=>(∃ b o x,A=some ⟨b,o,none⟩/\S b/\At w b (o+i*6) x/\RepS w S t x)/\RepSL w S l A (i+1)
end
theorem RepSL_iff (w:World) (S:Nat->Prop) (l:List T) (A:Option Addr) (i:Nat):
 RepSL w S l A i ↔ ∀ (j:Nat) (t:T),l[j]? =some t->∃ b o x,A=some ⟨b,o,none⟩/\S b/\At w b (o+(i+j)*6) x/\RepS w S t x:=by
 induction l generalizing i with
 |nil=>simp [RepSL]
 |cons t l ih=>
  simp only [RepSL,ih]
  constructor
  ·rintro ⟨h0,h1⟩ j u hu
   cases j with
   |zero=>simp at hu;subst hu;exact h0
   |succ j=>
    have:=h1 j u (by simpa using hu)
    rwa [show i+1+j=i+(j+1) from by omega] at this
  ·intro h
   refine ⟨h 0 t (by simp),fun j u hu=>?_⟩
   have:=h (j+1) u (by simpa using hu)
   rwa [show i+(j+1)=i+1+j from by omega] at this
theorem RepS_iff (w:World) (S:Nat->Prop) (t:T) (x:TV):RepS w S t x ↔
 Wee x/\x.kind=t.kind/\x.text=t.text/\x.n=t.n/\IntsS w S x.sa x.sl t.shape/\IntsS w S x.aa x.al t.atoms/\x.kl=t.kids.length/\
  ∀ (j:Nat) (u:T),t.kids[j]? =some u->∃ b o y,x.ka=some ⟨b,o,none⟩/\S b/\At w b (o+j*6) y/\RepS w S u y:=by
 cases t with
 |mk k s n sh a l=>
  simp only [RepS,RepSL_iff,T.kind_mk,T.text_mk,T.n_mk,T.shape_mk,T.atoms_mk,T.kids_mk,Nat.zero_add]
theorem IntsS.keep {w w':World} {S S':Nat->Prop} {A:Option Addr} {len:Nat} {xs:List Int} (h:IntsS w S A len xs) (hk:∀ b o,S b->w'.cell? ⟨b,o,none⟩=w.cell? ⟨b,o,none⟩) (hs:∀ b,S b->S' b):IntsS w' S' A len xs:=
 ⟨h.1,fun hl=>by
  obtain ⟨b,o,e,hb,hc⟩:=h.2 hl
  exact ⟨b,o,e,hs b hb,fun i v hv=>(hk b _ hb).trans (hc i v hv)⟩⟩
theorem At.same {w w':World} {b o:Nat} {x:TV} (h:At w b o x) (hk:∀ o,w'.cell? ⟨b,o,none⟩=w.cell? ⟨b,o,none⟩):At w' b o x:=
 ⟨(hk _).trans h.c0,(hk _).trans h.c1,(hk _).trans h.c2,(hk _).trans h.c3,(hk _).trans h.c4,(hk _).trans h.c5⟩
theorem RepS.keep {w w':World} {S S':Nat->Prop} (hk:∀ b o,S b->w'.cell? ⟨b,o,none⟩=w.cell? ⟨b,o,none⟩) (hs:∀ b,S b->S' b) (t:T):∀ x,RepS w S t x->RepS w' S' t x:=by
 refine T.ind (P:=fun t=>∀ x,RepS w S t x->RepS w' S' t x) ?_ t
 intro k s n sh a l ih x h
 rw [RepS_iff] at h ⊢
 obtain ⟨h0,h1,h2,h3,h4,h5,h6,h7⟩:=h
 refine ⟨h0,h1,h2,h3,h4.keep hk hs,h5.keep hk hs,h6,fun j u hu=>?_⟩
 obtain ⟨b,o,y,e,hb,hat,hr⟩:=h7 j u hu
 exact ⟨b,o,y,e,hs b hb,hat.same (fun o=>hk b o hb),ih u (List.mem_of_getElem? hu) y hr⟩
theorem RepS.rep {w:World} {B:Nat} {S:Nat->Prop} (hs:∀ b,S b->b<B) (t:T):∀ x,RepS w S t x->Rep w B t x:=by
 refine T.ind (P:=fun t=>∀ x,RepS w S t x->Rep w B t x) ?_ t
 intro k s n sh a l ih x h
 rw [RepS_iff] at h
 rw [Rep_iff]
 obtain ⟨h0,h1,h2,h3,h4,h5,h6,h7⟩:=h
 refine ⟨h0,h1,h2,h3,h4.keep (fun _ _ _=>rfl) hs,h5.keep (fun _ _ _=>rfl) hs,h6,fun j u hu=>?_⟩
 obtain ⟨b,o,y,e,hb,hat,hr⟩:=h7 j u hu
 exact ⟨b,o,y,e,hs b hb,hat,ih u (List.mem_of_getElem? hu) y hr⟩
theorem RepS.wee {w:World} {S:Nat->Prop} {t:T} {x:TV} (h:RepS w S t x):Wee x:=((RepS_iff w S t x).1 h).1
theorem RepS.kind {w:World} {S:Nat->Prop} {t:T} {x:TV} (h:RepS w S t x):x.kind=t.kind:=((RepS_iff w S t x).1 h).2.1
theorem RepS.text {w:World} {S:Nat->Prop} {t:T} {x:TV} (h:RepS w S t x):x.text=t.text:=((RepS_iff w S t x).1 h).2.2.1
theorem RepS.kl {w:World} {S:Nat->Prop} {t:T} {x:TV} (h:RepS w S t x):x.kl=t.kids.length:=((RepS_iff w S t x).1 h).2.2.2.2.2.2.1
theorem RepS.kid {w:World} {S:Nat->Prop} {t:T} {x:TV} (h:RepS w S t x) {j:Nat} {u:T} (hj:t.kids[j]? =some u):∃ b o y,x.ka=some ⟨b,o,none⟩/\S b/\At w b (o+j*6) y/\RepS w S u y:=
 ((RepS_iff w S t x).1 h).2.2.2.2.2.2.2 j u hj
theorem RepS.below {w w':World} {S:Nat->Prop} {t:T} {x:TV} {B:Nat} (h:RepS w S t x) (hb:Below B w w') (hS:∀ b,S b->b<B):RepS w' S t x:=
 RepS.keep (fun b o hb'=>hb.cell (p:=⟨b,o,none⟩) (hS b hb')) (fun _ h=>h) t x h
theorem RepS.mono {w:World} {S S':Nat->Prop} {t:T} {x:TV} (h:RepS w S t x) (hs:∀ b,S b->S' b):RepS w S' t x:=RepS.keep (fun _ _ _=>rfl) hs t x h
def Adds (S:Nat->Prop) (w w':World):Nat->Prop:=fun b=>S b\/(w.heap.size<=b/\b<w'.heap.size)
theorem Adds.lt {S:Nat->Prop} {w w':World} (hS:∀ b,S b->b<w.heap.size) (hz:w.heap.size<=w'.heap.size):∀ b,Adds S w w' b->b<w'.heap.size:=by
 rintro b (h|h)
 ·have:=hS b h;omega
 ·exact h.2
def TermPost (S:Nat->Prop) (u:T) (w:World) (e:Ending) (w':World):Prop:=∃ y,e=.returned (TV.val y)/\RepS w' (Adds S w w') u y/\Below w.heap.size w w'
theorem term_ends {S S3:Nat->Prop} {u:T} {w w3:World} {y:TV} {rb:Nat} (hr:RepS w3 S3 u y) (hB:Below w.heap.size w w3) (hrb:w.heap.size<=rb) (hne:¬S3 rb) (hs:∀ b,S3 b->Adds S w w3 b) (a0 a1 a2 a3 a4 a5:Value):
 TermPost S u w (.returned y.val) ((((((w3.setCell ⟨rb,0,none⟩ a0).setCell ⟨rb,1,none⟩ a1).setCell ⟨rb,2,none⟩ a2).setCell ⟨rb,3,none⟩ a3).setCell ⟨rb,4,none⟩ a4).setCell ⟨rb,5,none⟩ a5):=by
 refine ⟨y,rfl,RepS.keep (fun b o hb=>cell_of_heap ?_) (fun b hb=>?_) _ _ hr,?_⟩
 ·have hbr:b≠rb:=fun e=>hne (e▸hb)
  iterate 6 (refine (Below.heap_setCell _ _ _ _ hbr).trans ?_)
  rfl
 ·have:=hs b hb
  simpa [Adds,World.setCell] using this
 ·iterate 6 (refine Below.setCell ?_ (by simpa using hrb) _)
  exact hB
theorem rowCells_get:∀ (ys:List TV) (j:Nat) (y:TV) (i:Nat),ys[j]? =some y->i<6->(rowCells ys)[j*6+i]? =y.cells.toList[i]?
 |x::ys,0,y,i,h,hi=>by
  simp at h
  subst h
  have e:rowCells (x::ys)=x.cells.toList++rowCells ys:=by simp [rowCells]
  rw [e,Nat.zero_mul,Nat.zero_add,List.getElem?_append_left (by simp [TV.cells];omega)]
 |x::ys,j+1,y,i,h,hi=>by
  have:=rowCells_get ys j y i (by simpa using h) hi
  have e:rowCells (x::ys)=x.cells.toList++rowCells ys:=by simp [rowCells]
  rw [e,List.getElem?_append_right (by simp [TV.cells];omega),<-this]
  congr 1
  simp [TV.cells];omega
 |[],_,_,_,h,_=>by simp at h
theorem row_at {w':World} {base g n cap:Nat} {ys:List TV} (hrow:w'.ownsRow base 34 6 (.slice (some ⟨g,0,none⟩) n cap) n (rowCells ys)):
 base<=g/\g<w'.heap.size/\∀ (j:Nat) (y:TV),ys[j]? =some y->At w' g (j*6) y:=by
 obtain ⟨hl,⟨e,_⟩|⟨g',cap',cur,e,hg,hcur,hnc,hc,hs,ht⟩⟩:=hrow
 ·cases e
 injection e with e1 _ e3
 injection e1 with e1
 injection e1 with e1 _ _
 subst e1
 refine ⟨hg,(Array.getElem?_eq_some_iff.1 hcur).1,fun j y hy=>?_⟩
 have hjl:j<ys.length:=(List.getElem?_eq_some_iff.1 hy).1
 rw [rowCells_len] at hl
 have hcell:∀ i,i<6->w'.cell? ⟨g,j*6+i,none⟩=y.cells.toList[i]? :=by
  intro i hi
  have h1:=rowCells_get ys j y i hy hi
  rw [<-ht,List.getElem?_take,if_pos (by omega)] at h1
  rw [<-h1]
  simp [World.cell?,hcur]
 exact ⟨hcell 0 (by omega),hcell 1 (by omega),hcell 2 (by omega),hcell 3 (by omega),hcell 4 (by omega),hcell 5 (by omega)⟩
theorem pass_ends {w w2:World} {S:Nat->Prop} {u:T} {y:TV} {rb k:Nat} (hS:∀ b,S b->b<w.heap.size) (hr:RepS w2 (fun b=>S b\/(w.heap.size+k<=b/\b<w2.heap.size)) u y) (hb:Below w.heap.size w w2) (hrb:w.heap.size<=rb) (hrk:rb<w.heap.size+k) (a0 a1 a2 a3 a4 a5:Value):
 TermPost S u w (.returned y.val) ((((((w2.setCell ⟨rb,0,none⟩ a0).setCell ⟨rb,1,none⟩ a1).setCell ⟨rb,2,none⟩ a2).setCell ⟨rb,3,none⟩ a3).setCell ⟨rb,4,none⟩ a4).setCell ⟨rb,5,none⟩ a5):=by
 refine term_ends hr hb hrb ?_ ?_ _ _ _ _ _ _
 ·rintro (h|h)
  ·have:=hS _ h;omega
  ·omega
 ·rintro b (h|h)
  ·exact .inl h
  ·exact .inr (by omega)
def Held_rg (w':World) (tb b q:Nat) (A:Option Addr) (i c:Nat) (y:TV):Prop:=
 w'.cell? ⟨tb,5,none⟩=some (.slice A i c)/\w'.cell? ⟨b,q,none⟩=some (.int .i64 y.kind)/\w'.cell? ⟨b,q+1,none⟩=some (.string y.text)/\w'.cell? ⟨b,q+2,none⟩=some (.int .i64 y.n)/\w'.cell? ⟨b,q+3,none⟩=some (.slice y.sa y.sl y.sc)/\w'.cell? ⟨b,q+4,none⟩=some (.slice y.aa y.al y.ac)/\w'.cell? ⟨b,q+5,none⟩=some (.slice y.ka y.kl y.kc)
theorem Held_rg.keep {w w':World} {tb b q:Nat} {A:Option Addr} {i c B:Nat} {y:TV} (hh:Held_rg w tb b q A i c y) (hb:Below B w w') (h1:tb<B) (h2:b<B):Held_rg w' tb b q A i c y:=by
 have hk:=fun o=>hb.cell (p:=⟨b,o,none⟩) h2
 obtain ⟨t5,a0,a1,a2,a3,a4,a5⟩:=hh
 exact ⟨(hb.cell (p:=⟨tb,5,none⟩) h1).trans t5,(hk _).trans a0,(hk _).trans a1,(hk _).trans a2,(hk _).trans a3,(hk _).trans a4,(hk _).trans a5⟩
theorem Held_rg.grow {wb w5:World} {tb b q:Nat} {A:Option Addr} {i c:Nat} {y:TV} {V:Value} (hh:Held_rg wb tb b q A i c y) (hg:wb.grownBy w5 V.ownBlock) (hne:∀ g,V.ownBlock=some g->tb+1<=g) (hb:b<tb):Held_rg w5 tb b q A i c y:=by
 have n1:some tb≠V.ownBlock:=fun e=>by have:=hne tb e.symm;omega
 have n2:some b≠V.ownBlock:=fun e=>by have:=hne b e.symm;omega
 obtain ⟨t5,a0,a1,a2,a3,a4,a5⟩:=hh
 exact ⟨hg.cell t5 n1,hg.cell a0 n2,hg.cell a1 n2,hg.cell a2 n2,hg.cell a3 n2,hg.cell a4 n2,hg.cell a5 n2⟩
theorem below_grown_none {B:Nat} {a b c:World} (h:Below B a b) (g:b.grownBy c none) (hB:B<=b.heap.size):Below B a c:=h.grown g hB (fun _ e=>by cases e)
structure PickG (w w0:World) (S:Nat->Prop) (tb:Nat) (x:TV) (l:List T) (k:Nat) (wr:World) (A:Option Addr) (c:Nat) (ys:List TV):Prop where
 below:Below w.heap.size w wr
 size:w0.heap.size<=wr.heap.size
 old:∀ b,b<w0.heap.size->b≠tb->wr.heap[b]? =w0.heap[b]?
 box:Box wr tb { x with ka:=A,kl:=k,kc:=c }
 row:wr.ownsRow w0.heap.size 34 6 (.slice A k c) k (rowCells ys)
 len:ys.length=k
 reps:∀ (j:Nat) (u:T),j<k->l[j]? =some u->∃ y,ys[j]? =some y/\RepS wr (fun b=>S b\/(w0.heap.size<=b/\b<wr.heap.size/\(Value.slice A k c).ownBlock≠some b)) u y
theorem PickG.next {w w0 wr W w4 w5:World} {S:Nat->Prop} {tb:Nat} {x:TV} {l:List T} {k c g cap:Nat} {A:Option Addr} {ys:List TV} {u:T} {z:TV} (hP:PickG w w0 S tb x l k wr A c ys) (hS:∀ b,S b->b<w.heap.size) (ht:w.heap.size<=tb) (htb:tb<w0.heap.size) (hW:W.heap.size=wr.heap.size) (hu:l[k]? =some u)
 (hb4:Below wr.heap.size wr w4) (hr:RepS w4 (Adds S W w4) u z) (hgrow:(w4.alloc (.cells z.cells 34)).grownBy w5 (Value.ownBlock (.slice A k c)))
 (hown:w5.ownsRow w0.heap.size 34 6 (.slice (some ⟨g,0,none⟩) (k+1) cap) (k+1) (rowCells ys++z.cells.toList)) (hat:Value.ownBlock (.slice A k c)=some g\/g=w4.heap.size+1):
 PickG w w0 S tb x l (k+1) (w5.setCell ⟨tb,5,none⟩ (.slice (some ⟨g,0,none⟩) (k+1) cap)) (some ⟨g,0,none⟩) cap (ys++[z]):=by
 have hbc:Below wr.heap.size wr (w4.alloc (.cells z.cells 34)):=hb4.alloc hb4.size _
 have hlt:=hP.row.lt
 have hz:=hP.box.lt
 have hws:=hP.below.size
 have h0s:=hP.size
 have h4s:=hb4.size
 have h5s:=hgrow.size
 rw [World.size_alloc] at h5s
 have ne1:some tb≠Value.ownBlock (.slice A k c):=fun e=>by have:=(hlt _ e.symm).1;omega
 have bx:=(hP.box.below hbc hP.box.lt).grown hgrow ne1
 have hs:(w5.setCell ⟨tb,5,none⟩ (.slice (some ⟨g,0,none⟩) (k+1) cap)).heap.size=w5.heap.size:=by simp [World.setCell]
 have hk5:∀ b,b<w4.heap.size->some b≠Value.ownBlock (.slice A k c)->b≠tb->(w5.setCell ⟨tb,5,none⟩ (.slice (some ⟨g,0,none⟩) (k+1) cap)).heap[b]? =w4.heap[b]? :=by
  intro b h1 h2 h3
  refine (Below.heap_setCell _ _ _ _ h3).trans ((hgrow.block b (by simp;omega) h2).trans ?_)
  exact ((Below.refl w4.heap.size w4).alloc (Nat.le_refl _) _).block b h1
 have hkr:∀ b,b<wr.heap.size->w4.heap[b]? =wr.heap[b]? :=fun b h=>hb4.block b h
 refine ⟨((hP.below.trans (hbc.mono hP.below.size)).grown hgrow (by have:=hP.below.size;have:=hbc.size;omega) (fun q e=>by have:=(hlt q e).1;omega)).setCell (by show w.heap.size<=tb;omega) _,by rw [hs];omega,?_,?_,?_,by simp [hP.len],?_⟩
 ·intro b hb hne
  exact (hk5 b (by omega) (fun e=>by have:=(hlt b e.symm).1;omega) hne).trans ((hkr b (by omega)).trans (hP.old b hb hne))
 ·exact bx.set5 (some ⟨g,0,none⟩) (k+1) cap
 ·rw [rowCells_snoc]
  exact ownsRow_setCell_below hown htb _
 ·intro j v hj hv
  by_cases hjk:j<k
  ·obtain ⟨y,hy,hry⟩:=hP.reps j v hjk hv
   refine ⟨y,by rw [List.getElem?_append_left (by rw [hP.len];exact hjk)];exact hy,RepS.keep (fun b o hb=>cell_of_heap ?_) (fun b hb=>?_) _ _ hry⟩
   ·have hbs:b<wr.heap.size:=by
     rcases hb with h|h
     ·have:=hS b h;omega
     ·exact h.2.1
    refine (hk5 b (by omega) ?_ ?_).trans (hkr b hbs)
    ·rcases hb with h|h
     ·intro e;have:=(hlt b e.symm).1;have:=hS b h;omega
     ·exact fun e=>h.2.2 e.symm
    ·rcases hb with h|h
     ·have:=hS b h;omega
     ·omega
   ·rcases hb with h|h
    ·exact .inl h
    ·refine .inr ⟨h.1,by rw [hs];omega,fun e=>?_⟩
     have e:g=b:=by simpa [Value.ownBlock] using e
     rcases hat with h'|h'
     ·exact h.2.2 (by rw [h',e])
     ·have:=h.2.1;omega
  ·obtain rfl:j=k:=by omega
   rw [hu] at hv
   cases hv
   refine ⟨z,by rw [List.getElem?_append_right (by rw [hP.len];exact Nat.le_refl _),hP.len];simp,RepS.keep (fun b o hb=>cell_of_heap ?_) (fun b hb=>?_) _ _ hr⟩
   ·refine hk5 b ?_ ?_ ?_
    ·rcases hb with h|h
     ·have:=hS b h;omega
     ·exact h.2
    ·rcases hb with h|h
     ·intro e;have:=(hlt b e.symm).1;have:=hS b h;omega
     ·intro e;have:=(hlt b e.symm).2;rw [hW] at h;omega
    ·rcases hb with h|h
     ·have:=hS b h;omega
     ·rw [hW] at h;omega
   ·rcases hb with h|h
    ·exact .inl h
    ·rw [hW] at h
     refine .inr ⟨by omega,by rw [hs];omega,fun e=>?_⟩
     have e:g=b:=by simpa [Value.ownBlock] using e
     rcases hat with h'|h'
     ·have:=(hlt g h').2;omega
     ·omega
theorem PickG.start {w w0:World} {S:Nat->Prop} {tb:Nat} {x:TV} {l:List T} (hb:Below w.heap.size w w0) (hx:Box w0 tb { x with ka:=none,kl:=0,kc:=0 }):PickG w w0 S tb x l 0 w0 none 0 []:=
 ⟨hb,Nat.le_refl _,fun _ _ _=>rfl,hx,World.ownsRow_nil _ _ _ _,rfl,fun j u h=>absurd h (by omega)⟩
theorem PickG.kids {w w0 wr:World} {S:Nat->Prop} {tb:Nat} {x:TV} {l:List T} {k c:Nat} {A:Option Addr} {ys:List TV} (hP:PickG w w0 S tb x l k wr A c ys) (hk:k=l.length):
 k<=c/\c<=maxLen/\∀ (j:Nat) (u:T),l[j]? =some u->∃ b o y,A=some ⟨b,o,none⟩/\(w0.heap.size<=b/\b<wr.heap.size)/\At wr b (o+j*6) y/\RepS wr (fun b=>S b\/(w0.heap.size<=b/\b<wr.heap.size)) u y:=by
 have hrow:=hP.row
 obtain ⟨hl,⟨e,h0⟩|⟨g,cap,cur,e,hg,hcur,hnc,hc,hs,ht⟩⟩:=hrow
 ·cases e
  exact ⟨Nat.le_refl _,Nat.zero_le _,fun j u hj=>by have:=(List.getElem?_eq_some_iff.1 hj).1;omega⟩
 ·cases e
  obtain ⟨hg1,hg2,hat⟩:=row_at hP.row
  refine ⟨hnc,hc,fun j u hj=>?_⟩
  have hjk:j<k:=by rw [hk];exact (List.getElem?_eq_some_iff.1 hj).1
  obtain ⟨y,hy,hr⟩:=hP.reps j u hjk hj
  exact ⟨g,0,y,rfl,⟨hg1,hg2⟩,by rw [Nat.zero_add];exact hat j y hy,hr.mono (fun b h=>h.imp id (fun h=>⟨h.1,h.2.1⟩))⟩
def NoS:Nat->Prop:=fun _=>False
theorem noS_lt {n:Nat}:∀ b,NoS b->b<n:=fun _ h=>False.elim h
theorem ints_own {w1:World} {base ty n m:Nat} {v:Value} {A:Option Addr} {xs:List Int} {zs:List Value} (ho:w1.ownsRow base ty 1 v m zs)
 (hf:∀ S:Nat->Prop,(∀ g,v.ownBlock=some g->S g)->xs.length=n/\(0<n->∃ b o,A=some ⟨b,o,none⟩/\S b/\∀ (i:Nat) (u:Int),xs[i]? =some u->w1.cell? ⟨b,o+i,none⟩=some (.int .i64 u))):
 IntsS w1 (fun b=>base<=b/\b<w1.heap.size) A n xs:=hf _ (fun g e=>ho.lt g e)
structure OwnNums (w wq:World) (x:TV) (sh a:List Int) (A1:Option Addr) (c1:Nat) (A2:Option Addr) (c2:Nat):Prop where
 below:Below w.heap.size w wq
 size:w.heap.size+2<=wq.heap.size
 box:Box wq w.heap.size { x with sa:=A1,sc:=c1,aa:=A2,ac:=c2 }
 res:Box wq (w.heap.size+1) zeroTV
 i1:IntsS wq (fun b=>w.heap.size+2<=b/\b<wq.heap.size) A1 x.sl sh
 i2:IntsS wq (fun b=>w.heap.size+2<=b/\b<wq.heap.size) A2 x.al a
theorem OwnNums.make {w w2:World} {x:TV} {sh a:List Int} {A1 A2:Option Addr} {c1 c2:Nat} (hb:Below w.heap.size w w2) (hz:w.heap.size+2<=w2.heap.size) (hx:Box w2 w.heap.size x) (hr:Box w2 (w.heap.size+1) zeroTV)
 (h1:IntsS w2 (fun b=>w.heap.size+2<=b/\b<w2.heap.size) A1 x.sl sh) (h2:IntsS w2 (fun b=>w.heap.size+2<=b/\b<w2.heap.size) A2 x.al a):
 OwnNums w ((w2.setCell ⟨w.heap.size,3,none⟩ (.slice A1 x.sl c1)).setCell ⟨w.heap.size,4,none⟩ (.slice A2 x.al c2)) x sh a A1 c1 A2 c2:=by
 have hs:((w2.setCell ⟨w.heap.size,3,none⟩ (.slice A1 x.sl c1)).setCell ⟨w.heap.size,4,none⟩ (.slice A2 x.al c2)).heap.size=w2.heap.size:=by simp [World.setCell]
 have hk:∀ b o,w.heap.size+2<=b/\b<w2.heap.size->((w2.setCell ⟨w.heap.size,3,none⟩ (.slice A1 x.sl c1)).setCell ⟨w.heap.size,4,none⟩ (.slice A2 x.al c2)).cell? ⟨b,o,none⟩=w2.cell? ⟨b,o,none⟩:=
  fun b o h=>cell_of_heap ((Below.heap_setCell _ _ _ _ (by show b≠w.heap.size;omega)).trans (Below.heap_setCell _ _ _ _ (by show b≠w.heap.size;omega)))
 refine ⟨(hb.setCell (Nat.le_refl _) _).setCell (Nat.le_refl _) _,by rw [hs];exact hz,(hx.set3 A1 x.sl c1).set4 A2 x.al c2,(hr.other (by omega) _).other (by omega) _,?_,?_⟩
 ·exact h1.keep hk (fun b h=>by rw [hs];exact h)
 ·exact h2.keep hk (fun b h=>by rw [hs];exact h)
theorem IntsS.grown {w w':World} {base:Nat} {A:Option Addr} {n:Nat} {xs:List Int} (h:IntsS w (fun b=>base<=b/\b<w.heap.size) A n xs) (hg:w.grownBy w' none):IntsS w' (fun b=>base<=b/\b<w'.heap.size) A n xs:=
 h.keep (fun b o hb=>cell_of_heap (hg.block b hb.2 (by simp))) (fun b hb=>⟨hb.1,Nat.lt_of_lt_of_le hb.2 hg.size⟩)
theorem RepS.make {w:World} {S:Nat->Prop} {k:Int} {s:ByteArray} {n:Int} {sh a:List Int} {l:List T} {x:TV} (hw:Wee x) (h1:x.kind=k) (h2:x.text=s) (h3:x.n=n) (h4:IntsS w S x.sa x.sl sh) (h5:IntsS w S x.aa x.al a) (h6:x.kl=l.length)
 (h7:∀ (j:Nat) (u:T),l[j]? =some u->∃ b o y,x.ka=some ⟨b,o,none⟩/\S b/\At w b (o+j*6) y/\RepS w S u y):RepS w S (.mk k s n sh a l) x:=(RepS_iff _ _ _ _).2 ⟨hw,h1,h2,h3,h4,h5,h6,h7⟩
theorem OwnNums.nil {w wq:World} {x:TV} {sh a:List Int} {A1 A2:Option Addr} {c1 c2:Nat} (h:OwnNums w wq x sh a A1 c1 A2 c2) (l:List T):
 PickG w (wq.setCell ⟨w.heap.size,5,none⟩ (.slice none 0 0)) NoS w.heap.size ⟨x.kind,x.text,x.n,A1,x.sl,c1,A2,x.al,c2,none,0,0⟩ l 0 (wq.setCell ⟨w.heap.size,5,none⟩ (.slice none 0 0)) none 0 []/\
 w.heap.size+2<=(wq.setCell ⟨w.heap.size,5,none⟩ (.slice none 0 0)).heap.size/\Box (wq.setCell ⟨w.heap.size,5,none⟩ (.slice none 0 0)) (w.heap.size+1) zeroTV/\
 IntsS (wq.setCell ⟨w.heap.size,5,none⟩ (.slice none 0 0)) (fun b=>w.heap.size+2<=b/\b<(wq.setCell ⟨w.heap.size,5,none⟩ (.slice none 0 0)).heap.size) A1 x.sl sh/\
 IntsS (wq.setCell ⟨w.heap.size,5,none⟩ (.slice none 0 0)) (fun b=>w.heap.size+2<=b/\b<(wq.setCell ⟨w.heap.size,5,none⟩ (.slice none 0 0)).heap.size) A2 x.al a:=by
 have hs:(wq.setCell ⟨w.heap.size,5,none⟩ (.slice none 0 0)).heap.size=wq.heap.size:=by simp [World.setCell]
 have hk:∀ b o,w.heap.size+2<=b/\b<wq.heap.size->(wq.setCell ⟨w.heap.size,5,none⟩ (.slice none 0 0)).cell? ⟨b,o,none⟩=wq.cell? ⟨b,o,none⟩:=
  fun b o h=>cell_of_heap (Below.heap_setCell _ _ _ _ (by show b≠w.heap.size;omega))
 refine ⟨PickG.start (h.below.setCell (Nat.le_refl _) _) (h.box.set5 none 0 0),by rw [hs];exact h.size,h.res.other (by omega) _,?_,?_⟩
 ·exact h.i1.keep hk (fun b h=>by rw [hs];exact h)
 ·exact h.i2.keep hk (fun b h=>by rw [hs];exact h)
theorem own_ends {w w0 wr:World} {x:TV} {k:Int} {s:ByteArray} {n:Int} {sh a:List Int} {l:List T} {A1 A2 A:Option Addr} {c1 c2 c B K:Nat} {ys:List TV} (hr:Rep w B (.mk k s n sh a l) x) (hK:K=x.kl) (hP:PickG w w0 NoS w.heap.size ⟨x.kind,x.text,x.n,A1,x.sl,c1,A2,x.al,c2,none,0,0⟩ l K wr A c ys)
 (hz:w.heap.size+2<=w0.heap.size) (i1:IntsS w0 (fun b=>w.heap.size+2<=b/\b<w0.heap.size) A1 x.sl sh) (i2:IntsS w0 (fun b=>w.heap.size+2<=b/\b<w0.heap.size) A2 x.al a)
 (h1:x.sl<=c1) (h2:c1<=maxLen) (h3:x.al<=c2) (h4:c2<=maxLen):
 RepS wr (fun b=>NoS b\/(w.heap.size+2<=b/\b<wr.heap.size)) (.mk k s n sh a l) { x with sa:=A1,sc:=c1,aa:=A2,ac:=c2,ka:=A,kl:=K,kc:=c }:=by
 have hw:=hr.wee
 have hkl:=hr.kl
 simp only [T.kids_mk] at hkl
 obtain ⟨h5,h6,h7⟩:=hP.kids (hK.trans hkl)
 have hs:=hP.size
 have hk:∀ b o,w.heap.size+2<=b/\b<w0.heap.size->wr.cell? ⟨b,o,none⟩=w0.cell? ⟨b,o,none⟩:=fun b o h=>cell_of_heap (hP.old b h.2 (by omega))
 refine RepS.make ⟨hw.k0,hw.k1,hw.n0,hw.n1,hw.ts,h1,h3,h5,hw.s1,hw.a1,by show K<=_;rw [hK];exact hw.l1,h2,h4,h6⟩ hr.kind hr.text hr.n ?_ ?_ (hK.trans hkl) ?_
 ·exact i1.keep hk (fun b h=>.inr ⟨h.1,by omega⟩)
 ·exact i2.keep hk (fun b h=>.inr ⟨h.1,by omega⟩)
 ·intro j u hj
  obtain ⟨b,o,y,e,hb,hat,hry⟩:=h7 j u hj
  exact ⟨b,o,y,e,.inr ⟨by omega,hb.2⟩,hat,hry.mono (fun b h=>h.imp id (fun h=>⟨by omega,h.2⟩))⟩
theorem cell_set_ne {w:World} {b c o:Nat} {v:Value} (h:c≠o):(w.setCell ⟨b,c,none⟩ v).cell? ⟨b,o,none⟩=w.cell? ⟨b,o,none⟩:=by
 rw [World.cell?_setCell_other]
 intro e
 injection e with _ e2
 exact h e2
def Room (w:World) (b ty n:Nat):Prop:=∃ cur,w.heap[b]? =some (.cells cur ty (0,0))/\n<=cur.size
theorem Room.set {w:World} {b ty n:Nat} (h:Room w b ty n) (o:Nat) (v:Value):Room (w.setCell ⟨b,o,none⟩ v) b ty n:=by
 obtain ⟨cur,h1,h2⟩:=h
 exact ⟨_,heap_setCell_same w b o cur ty v h1,by simpa using h2⟩
theorem Room.kept {w w':World} {b ty n:Nat} (h:Room w b ty n) (hk:w'.heap[b]? =w.heap[b]?):Room w' b ty n:=by
 obtain ⟨cur,h1,h2⟩:=h
 exact ⟨cur,hk.trans h1,h2⟩
theorem Room.cell {w:World} {b ty n:Nat} (h:Room w b ty n) {o:Nat} (ho:o<n):∃ v,w.cell? ⟨b,o,none⟩=some v:=by
 obtain ⟨cur,h1,h2⟩:=h
 exact ⟨cur[o]'(by omega),by simp [World.cell?,h1]⟩
theorem Room.free {w:World} {b ty n:Nat} (h:Room w b ty n) (o:Nat):w.frozen? ⟨b,o,none⟩=false:=by
 obtain ⟨cur,h1,h2⟩:=h
 simp [World.frozen?,h1]
theorem Room.lt {w:World} {b ty n:Nat} (h:Room w b ty n):b<w.heap.size:=by
 obtain ⟨cur,h1,h2⟩:=h
 exact (Array.getElem?_eq_some_iff.1 h1).1
mutual
def T.small:T->Prop
 |.mk _ _ _ sh a l=>sh.length<=524288/\a.length<=524288/\T.smallL l
def T.smallL:List T->Prop
 |[]=>True
 |t::l=>T.small t/\T.smallL l
end
theorem T.smallL_snoc {l:List T} {u:T} (h:T.smallL l) (hu:T.small u):T.smallL (l++[u]):=by
 induction l with
 |nil=>exact ⟨hu,trivial⟩
 |cons t l ih=>exact ⟨h.1,ih h.2⟩
def WeighPost (t:T) (left:Int) (w:World) (e:Ending) (w':World):Prop:=∃ k:Int,e=.returned (.int .i64 k)/\-1125899906842624<=k/\k<=left/\(0<=k->t.small)/\Below w.heap.size w w'
def WeighAll (t:T):Prop:=∀ (x:TV) (B:Nat) (down left:Int) (w:World),Rep w B t x->B<=w.heap.size->-1<=down->down<=255->0<=left->left<=524288->
 Calls Tryz.prog 57 #[x.val,.int .i64 down,.int .i64 left] w (WeighPost t left w)
set_option maxRecDepth 100000 in
set_option maxHeartbeats 4000000 in
theorem weigh_all (t:T):WeighAll t:=by
 refine T.ind (P:=WeighAll) ?_ t
 intro k s n sh a l ih x B down left w hr hB hd0 hd1 hl0 hl1
 have hwee:=hr.wee
 have ht:=hwee.ts
 have hs1:=hwee.s1
 have ha1:=hwee.a1
 have hk1:=hwee.l1
 have HR:=hid hr
 have HL:=hid hr.kl
 have HIH:=hid ih
 have HSL:=hid hr.shape.1
 have HAL:=hid hr.atoms.1
 simp only [T.shape_mk,T.atoms_mk] at HSL HAL
 have hb0:=(Below.refl w.heap.size w).alloc (Nat.le_refl _) (.cells x.cells 34)
 have hbox0:=Box.new w x 34
 simp only [TV.cells] at hb0 hbox0
 have HB0:=hid hb0
 have HX0:=hid hbox0
 simp only [T.kids_mk] at HL
 clear hr ih hwee hb0 hbox0
 simp only [TV.val,TV.cells]
 by_cases hd:down<0
 ·go_enter Tryz.func57,Tryz.ntmps57
  go_wp2_with fail
  go_ret
  exact ⟨-1,rfl,by omega,by omega,(fun h=>absurd h (by omega)),HB0.out⟩
 ·have hd':0<=down:=by omega
  clear hd
  go_enter Tryz.func57,Tryz.ntmps57
  go_wp2_with fail
  go_loopw [2,7] (fun v i wr=>∃ (K:Nat) (L:Int),K<=x.kl/\i=.int .i64 K/\v=.int .i64 L/\-1125899906842624<=L/\L<=left-(x.sl:Int)-(x.al:Int)/\Hid (0<=L->T.smallL (l.take K))/\Below w.heap.size w wr/\Box wr w.heap.size x) (fun _ i _=>x.kl-(intOf i).toNat)
  case atStart=>exact ⟨0,_,Nat.zero_le _,rfl,rfl,by omega,by omega,(show 0<=_->T.smallL (l.take 0) from fun _=>trivial),HB0.out,HX0.out⟩
  case round=>
   obtain ⟨K,L,hK,rfl,rfl,hL0,hL1,HSM,hbel,hbx⟩:=hrel
   have HB:=hid hbel
   have HX:=hid hbx
   clear hbel
   obtain ⟨q0,q1,q2,q3,q4,q5,qf⟩:=hbx
   by_cases hlt:K<x.kl
   ·by_cases hL:0<=L
    ·obtain ⟨u,hu⟩:∃ u,l[K]? =some u:=⟨l[K]'(by rw [<-HL.out];exact hlt),by simp⟩
     obtain ⟨b,o,y,he,hb,hat,hru⟩:=HR.out.kid (t:=T.mk k s n sh a l) (j:=K) hu
     have hat':=hat.keep hb (Keeps.of_below HB.out hB)
     have HC:=hid (HIH.out u (List.mem_of_getElem? hu) y B (down-1) L wr (hru.below HB.out hB) (Nat.le_trans hB HB.out.size) (by omega) (by omega) hL (by omega))
     have HTK:=hid (show l.take (K+1)=l.take K++[u] from by rw [List.take_add_one,hu];rfl)
     have hbw:b<wr.heap.size:=by have:=HB.out.size;omega
     have hz:=HX.out.lt
     rw [he] at q5
     obtain ⟨p0,p1,p2,p3,p4,p5⟩:=hat'
     simp only [TV.val,TV.cells] at HC
     clear hu hat hru he
     go_wp2_with fail
     refine HC.out.mono ?_
     rintro e w2 ⟨L2,rfl,hL20,hL21,hsm2,hb2⟩
     have HSM2:=hid (show 0<=L2->T.smallL (l.take (K+1)) from fun h=>by rw [HTK.out];exact T.smallL_snoc (HSM.out hL) (hsm2 h))
     clear hsm2
     have HB2:=hid (HB.out.trans (hb2.mono HB.out.size))
     have HX2:=hid (HX.out.below hb2 hz)
     clear hb2 p0 p1 p2 p3 p4 p5 q0 q1 q2 q3 q4 q5 qf
     go_wp2_with fail
     go_roundw
     case rel=>exact ⟨K+1,L2,by omega,by go_num,rfl,hL20,by omega,HSM2.out,HB2.out,HX2.out⟩
     case measure=>simp [intOf];omega
    ·go_wp2_with fail
     go_ret
     exact ⟨L,rfl,hL0,by omega,(fun h=>absurd h (by omega)),HB.out⟩
   ·go_wp2_with fail
    go_ret
    refine ⟨L,rfl,hL0,by omega,fun h=>?_,HB.out⟩
    have h1:=HSM.out h
    rw [List.take_of_length_le (by rw [<-HL.out];omega)] at h1
    exact ⟨by rw [HSL.out];omega,by rw [HAL.out];omega,h1⟩
def LightPost (t:T) (w:World) (e:Ending) (w':World):Prop:=∃ b:Bool,e=.returned (.bool b)/\(b=true->t.fits/\t.small)/\Below w.heap.size w w'
set_option maxRecDepth 100000 in
set_option maxHeartbeats 4000000 in
theorem light_calls (t:T) (x:TV) (B:Nat) (w:World) (hr:Rep w B t x) (hB:B<=w.heap.size):
 Calls Tryz.prog 34 #[x.val] w (LightPost t w):=by
 have HSZ:=hid (fun (W:World) (h:Below w.heap.size w W)=>size_later hr hB h)
 have HW:=hid (fun (W:World) (h:Below w.heap.size w W)=>weigh_all t x B 255 524288 W (hr.below h hB) (Nat.le_trans hB h.size) (by omega) (by omega) (by omega) (by omega))
 have hb0:=(Below.refl w.heap.size w).alloc (Nat.le_refl _) (.cells x.cells 34)
 have hbox0:=Box.new w x 34
 simp only [TV.cells] at hb0 hbox0
 have HB0:=hid hb0
 have HX0:=hid hbox0
 clear hr hb0 hbox0
 simp only [TV.val,TV.cells] at HW ⊢
 by_cases hf:t.fits
 ·have hd:decide ((t.sizeN:Int)<=4096)=true:=by have:=hf.1;simp [T.sizeN,hf];omega
  have HF:=hid hf
  clear hf
  go_enter Tryz.func34,Tryz.ntmps34
  go_wp2_with fail
  refine (HSZ.out _ HB0.out).mono ?_
  rintro e w1 ⟨rfl,hb1⟩
  have HB1:=hid (HB0.out.trans (hb1.mono HB0.out.size))
  obtain ⟨q0,q1,q2,q3,q4,q5,qf⟩:=HX0.out.below hb1 (by simp)
  clear hb1
  go_wp2_with fail
  refine (HW.out _ HB1.out).mono ?_
  rintro e w2 ⟨L,rfl,_,_,hsm,hb2⟩
  have HB2:=hid (HB1.out.trans (hb2.mono HB1.out.size))
  clear hb2 q0 q1 q2 q3 q4 q5 qf
  have HSM:=hid hsm
  clear hsm
  cases hd2:decide (0<=L)
  all_goals
   go_wp2_with fail
   go_ret
  ·exact ⟨false,rfl,(fun h=>by cases h),HB2.out⟩
  ·exact ⟨true,rfl,fun _=>⟨HF.out,HSM.out (by simpa using hd2)⟩,HB2.out⟩
 ·have hd:decide ((t.sizeN:Int)<=4096)=false:=by simp [T.sizeN,hf]
  have HF:=hid hf
  clear hf
  go_enter Tryz.func34,Tryz.ntmps34
  go_wp2_with fail
  refine (HSZ.out _ HB0.out).mono ?_
  rintro e w1 ⟨rfl,hb1⟩
  have HB1:=hid (HB0.out.trans (hb1.mono HB0.out.size))
  clear hb1
  go_wp2_with fail
  go_ret
  exact ⟨false,rfl,(fun h=>by cases h),HB1.out⟩
theorem ownsRow_form {w:World} {base e size n:Nat} {v:Value} {xs:List Value} (h:w.ownsRow base e size v n xs):∃ p c,v=.slice p n c/\n<=c:=by
 rcases h with ⟨_,⟨e1,e2⟩|⟨g,cap,cur,rfl,hg,hcur,h4,_⟩⟩
 ·subst e2
  exact ⟨none,0,e1,Nat.le_refl _⟩
 ·exact ⟨_,cap,rfl,h4⟩
end Go.Proofs.YtpfkhdlnjefikaaGreatDoor
