/- The law's Book: its entries written full and grown. The law's Book: Whole. The law's Book: Take. -/
import Derived.Test.YtpfkhdlnjefikaaGreatDoorQBkA
set_option linter.unusedVariables false
set_option linter.unusedSimpArgs false
namespace Go.Proofs.YtpfkhdlnjefikaaGreatDoor
open Go.RowKit
structure Fill (wk wr:World) (y:TV) (i:Nat) (F1 F2 F3:List Nat) (n1 n2 n3:Nat):Prop where
 o1:OwnB wr 3 1 y.sa y.sl y.sc F1
 o2:OwnB wr 2 1 y.aa y.al y.ac F2
 o3:OwnB wr 34 6 y.ka y.kl y.kc F3
 m1:Marks1 wr y.sa n1 (1099511627776+i)
 m2:Marks1 wr y.aa n2 (-2199023255552-i)
 m3:Marks6 wr y.ka n3 (4398046511104+i)
 out:Outside (F1++F2++F3) wk wr
 nodup:(F1++F2++F3).Nodup
theorem Fill.apart {wk wr:World} {y:TV} {i:Nat} {F1 F2 F3:List Nat} {n1 n2 n3:Nat} (h:Fill wk wr y i F1 F2 F3 n1 n2 n3):(∀ b∈F1,b ∉ F2/\b ∉ F3)/\∀ b∈F2,b ∉ F3:=by
 have hn:=List.nodup_append.1 h.nodup
 have hm:=List.nodup_append.1 hn.1
 exact ⟨fun b hb=>⟨fun hc=>hm.2.2 b hb b hc rfl,fun hc=>hn.2.2 b (List.mem_append_left _ hb) b hc rfl⟩,fun b hb hc=>hn.2.2 b (List.mem_append_right _ hb) b hc rfl⟩
theorem Marks1.len {w:World} {ty size:Nat} {A:Option Addr} {n len cap:Nat} {F:List Nat} {v:Int} (h:Marks1 w A n v) (ho:OwnB w ty size A len cap F) {w':World} (hn:n<=cap) (hk:∀ b∈F,w'.heap[b]? =w.heap[b]?):Marks1 w' A n v:=
 h.kept (ho.len (Nat.le_refl cap)) hn hk
theorem Marks6.len {w:World} {ty size:Nat} {A:Option Addr} {n len cap:Nat} {F:List Nat} {v:Int} (h:Marks6 w A n v) (ho:OwnB w ty size A len cap F) {w':World} (hn:n<=cap) (hk:∀ b∈F,w'.heap[b]? =w.heap[b]?):Marks6 w' A n v:=
 h.kept (ho.len (Nat.le_refl cap)) hn hk
theorem Fill.below {wk wr w':World} {y:TV} {i:Nat} {F1 F2 F3:List Nat} {n1 n2 n3:Nat} (h:Fill wk wr y i F1 F2 F3 n1 n2 n3) (h1:n1<=y.sc) (h2:n2<=y.ac) (h3:n3<=y.kc) (hb:Below wr.heap.size wr w'):Fill wk w' y i F1 F2 F3 n1 n2 n3:=by
 have k1:∀ b∈F1,w'.heap[b]? =wr.heap[b]? :=fun b hb'=>hb.block b (h.o1.lt b hb')
 have k2:∀ b∈F2,w'.heap[b]? =wr.heap[b]? :=fun b hb'=>hb.block b (h.o2.lt b hb')
 have k3:∀ b∈F3,w'.heap[b]? =wr.heap[b]? :=fun b hb'=>hb.block b (h.o3.lt b hb')
 exact ⟨h.o1.kept k1,h.o2.kept k2,h.o3.kept k3,h.m1.len h.o1 h1 k1,h.m2.len h.o2 h2 k2,h.m3.len h.o3 h3 k3,h.out.trans (Outside.of_below hb),h.nodup⟩
theorem Fill.next1 {wk wr:World} {y:TV} {i b:Nat} {F1 F2 F3:List Nat} {n1 n2 n3:Nat} (h:Fill wk wr y i F1 F2 F3 n1 n2 n3) (hA:y.sa=some ⟨b,0,none⟩) (h1:n1<y.sc) (h2:n2<=y.ac) (h3:n3<=y.kc):
 Fill wk (wr.setCell ⟨b,n1,none⟩ (.int .i64 (1099511627776+i))) y i F1 F2 F3 (n1+1) n2 n3:=by
 obtain ⟨b',e,hF,hR⟩:=h.o1.room (by omega)
 rw [hA] at e
 cases e
 have hb:b∈F1:=by simp [hF]
 obtain ⟨a1,a2⟩:=h.apart
 have k2:∀ c∈F2,(wr.setCell ⟨b,n1,none⟩ (.int .i64 (1099511627776+i))).heap[c]? =wr.heap[c]? :=fun c hc=>Below.heap_setCell _ _ _ _ (fun e=>(a1 b hb).1 (by have e:c=b:=e;exact e▸hc))
 have k3:∀ c∈F3,(wr.setCell ⟨b,n1,none⟩ (.int .i64 (1099511627776+i))).heap[c]? =wr.heap[c]? :=fun c hc=>Below.heap_setCell _ _ _ _ (fun e=>(a1 b hb).2 (by have e:c=b:=e;exact e▸hc))
 refine ⟨h.o1.set _ _ _,h.o2.kept k2,h.o3.kept k3,?_,h.m2.len h.o2 h2 k2,h.m3.len h.o3 h3 k3,h.out.set (.inl (by simp [hb])) _,h.nodup⟩
 have hm:=h.m1
 rw [hA] at hm ⊢
 exact hm.next hR (by omega)
theorem Fill.next2 {wk wr:World} {y:TV} {i b:Nat} {F1 F2 F3:List Nat} {n1 n2 n3:Nat} (h:Fill wk wr y i F1 F2 F3 n1 n2 n3) (hA:y.aa=some ⟨b,0,none⟩) (h1:n1<=y.sc) (h2:n2<y.ac) (h3:n3<=y.kc):
 Fill wk (wr.setCell ⟨b,n2,none⟩ (.int .i64 (-2199023255552-i))) y i F1 F2 F3 n1 (n2+1) n3:=by
 obtain ⟨b',e,hF,hR⟩:=h.o2.room (by omega)
 rw [hA] at e
 cases e
 have hb:b∈F2:=by simp [hF]
 obtain ⟨a1,a2⟩:=h.apart
 have k1:∀ c∈F1,(wr.setCell ⟨b,n2,none⟩ (.int .i64 (-2199023255552-i))).heap[c]? =wr.heap[c]? :=fun c hc=>Below.heap_setCell _ _ _ _ (fun e=>(a1 c hc).1 (by have e:c=b:=e;exact e▸hb))
 have k3:∀ c∈F3,(wr.setCell ⟨b,n2,none⟩ (.int .i64 (-2199023255552-i))).heap[c]? =wr.heap[c]? :=fun c hc=>Below.heap_setCell _ _ _ _ (fun e=>a2 b hb (by have e:c=b:=e;exact e▸hc))
 refine ⟨h.o1.kept k1,h.o2.set _ _ _,h.o3.kept k3,h.m1.len h.o1 h1 k1,?_,h.m3.len h.o3 h3 k3,h.out.set (.inl (by simp [hb])) _,h.nodup⟩
 have hm:=h.m2
 rw [hA] at hm ⊢
 exact hm.next hR (by omega)
theorem heap_set6 (w:World) (b n c:Nat) (hc:c≠b) (v0 v1 v2 v3 v4 v5:Value):((((((w.setCell ⟨b,n,none⟩ v0).setCell ⟨b,n+1,none⟩ v1).setCell ⟨b,n+2,none⟩ v2).setCell ⟨b,n+3,none⟩ v3).setCell ⟨b,n+4,none⟩ v4).setCell ⟨b,n+5,none⟩ v5).heap[c]? =w.heap[c]? :=by
 iterate 6 (refine (Below.heap_setCell _ _ _ _ hc).trans ?_)
 rfl
theorem Fill.next3 {wk wr:World} {y:TV} {i b:Nat} {F1 F2 F3:List Nat} {n1 n2 n3:Nat} (h:Fill wk wr y i F1 F2 F3 n1 n2 n3) (hA:y.ka=some ⟨b,0,none⟩) (h1:n1<=y.sc) (h2:n2<=y.ac) (h3:n3<y.kc):
 Fill wk ((((((wr.setCell ⟨b,n3*6,none⟩ (.int .i64 0)).setCell ⟨b,n3*6+1,none⟩ (.string ⟨#[]⟩)).setCell ⟨b,n3*6+2,none⟩ (.int .i64 (4398046511104+i))).setCell ⟨b,n3*6+3,none⟩ (.slice none 0 0)).setCell ⟨b,n3*6+4,none⟩ (.slice none 0 0)).setCell ⟨b,n3*6+5,none⟩ (.slice none 0 0)) y i F1 F2 F3 n1 n2 (n3+1):=by
 obtain ⟨b',e,hF,hR⟩:=h.o3.room (by omega)
 rw [hA] at e
 cases e
 have hb:b∈F3:=by simp [hF]
 obtain ⟨a1,a2⟩:=h.apart
 have k1:∀ c∈F1,((((((wr.setCell ⟨b,n3*6,none⟩ (.int .i64 0)).setCell ⟨b,n3*6+1,none⟩ (.string ⟨#[]⟩)).setCell ⟨b,n3*6+2,none⟩ (.int .i64 (4398046511104+i))).setCell ⟨b,n3*6+3,none⟩ (.slice none 0 0)).setCell ⟨b,n3*6+4,none⟩ (.slice none 0 0)).setCell ⟨b,n3*6+5,none⟩ (.slice none 0 0)).heap[c]? =wr.heap[c]? :=
  fun c hc=>heap_set6 _ _ _ _ (fun e=>(a1 c hc).2 (by rw [e];exact hb)) _ _ _ _ _ _
 have k2:∀ c∈F2,((((((wr.setCell ⟨b,n3*6,none⟩ (.int .i64 0)).setCell ⟨b,n3*6+1,none⟩ (.string ⟨#[]⟩)).setCell ⟨b,n3*6+2,none⟩ (.int .i64 (4398046511104+i))).setCell ⟨b,n3*6+3,none⟩ (.slice none 0 0)).setCell ⟨b,n3*6+4,none⟩ (.slice none 0 0)).setCell ⟨b,n3*6+5,none⟩ (.slice none 0 0)).heap[c]? =wr.heap[c]? :=
  fun c hc=>heap_set6 _ _ _ _ (fun e=>a2 c hc (by rw [e];exact hb)) _ _ _ _ _ _
 refine ⟨h.o1.kept k1,h.o2.kept k2,?_,h.m1.len h.o1 h1 k1,h.m2.len h.o2 h2 k2,?_,h.out.set6 (by simp [hb]) _ _ _ _ _ _ _,h.nodup⟩
 ·iterate 6 (refine OwnB.set ?_ _ _ _)
  exact h.o3
 ·have hm:=h.m3
  rw [hA] at hm ⊢
  exact hm.next hR (by omega)
def BookS (w:World) (pb:Nat) (G:List Nat):Prop:=
 ∃ v0 v1 v2 E s F,BookG w pb v0 v1 v2 E s/\G=deskB pb v0 v1 v2++F/\G.Nodup/\BkEnts w AllT AllF 0 E F/\0<=s/\s<=4611686018427387904/\E.length<=40000/\(s<33554432->1200*E.length<=s)
theorem BookS.kept {w w':World} {pb:Nat} {G:List Nat} (h:BookS w pb G) (hk:∀ b∈G,w'.heap[b]? =w.heap[b]?):BookS w' pb G:=by
 obtain ⟨v0,v1,v2,E,s,F,h1,rfl,h3,h4,h5⟩:=h
 exact ⟨v0,v1,v2,E,s,F,h1.kept (fun b hb=>hk b (List.mem_append_left _ hb)),rfl,h3,h4.kept (fun b hb=>hk b (List.mem_append_right _ hb)),h5⟩
theorem BookS.lt {w:World} {pb:Nat} {G:List Nat} (h:BookS w pb G):∀ b∈G,b<w.heap.size:=by
 obtain ⟨v0,v1,v2,E,s,F,h1,rfl,h3,h4,h5⟩:=h
 intro b hb
 rcases List.mem_append.1 hb with hb|hb
 ·exact h1.lt b hb
 ·exact h4.lt b hb
theorem BookS.below {w w':World} {pb:Nat} {G:List Nat} (h:BookS w pb G) (hb:Below w.heap.size w w'):BookS w' pb G:=
 h.kept (fun b hb'=>hb.block b (h.lt b hb'))
theorem BookS.outside {w w':World} {pb:Nat} {G F:List Nat} (h:BookS w pb G) (hb:Outside F w w') (hF:∀ b∈G,b ∉ F):BookS w' pb G:=
 h.kept (fun b hb'=>hb.block b (h.lt b hb') (hF b hb'))
def TakePost (w:World) (pb:Nat) (G Fx:List Nat) (e:Ending) (w':World):Prop:=
 e=.returned (.tuple #[])/\∃ G',BookS w' pb G'/\(∀ b∈G',b∈G++Fx\/w.heap.size<=b)/\Outside (G++Fx) w w'
structure Tk (w wr:World) (pb:Nat) (G Fx:List Nat) (v0 v1 v2:Value) (E:List TV) (s:Int) (k m:Nat):Prop where
 book:BookG wr pb v0 v1 v2 E s
 ex:∃ F,BkEnts wr (·<k) (m<=·) 0 E F/\(deskB pb v0 v1 v2++F).Nodup/\∀ b∈deskB pb v0 v1 v2++F,b∈G++Fx\/w.heap.size<=b
 out:Outside (G++Fx) w wr
 lo:0<=s
 hi:s<=4611686018427387904
 len:E.length<=40000
 sz:s<33554432->1200*E.length<=s
theorem Tk.ends {w wr:World} {pb:Nat} {G Fx:List Nat} {v0 v1 v2:Value} {E:List TV} {s:Int} {k m:Nat} (h:Tk w wr pb G Fx v0 v1 v2 E s k m) (hk:E.length<=k):TakePost w pb G Fx (.returned (.tuple #[])) wr:=by
 obtain ⟨F,h1,h2,h3⟩:=h.ex
 exact ⟨rfl,_,⟨v0,v1,v2,E,s,F,h.book,rfl,h2,h1.imp (fun j _ hj=>⟨fun _=>by omega,fun h=>h.elim⟩),h.lo,h.hi,h.len,h.sz⟩,h3,h.out⟩
theorem Tk.ahead {w W wr:World} {pb:Nat} {G Fx:List Nat} {v0 v1 v2:Value} {E:List TV} {s:Int} {k m:Nat} (hb:Below w.heap.size w W) (h:Tk W wr pb G Fx v0 v1 v2 E s k m):Tk w wr pb G Fx v0 v1 v2 E s k m:=by
 obtain ⟨F,h1,h2,h3⟩:=h.ex
 exact ⟨h.book,⟨F,h1,h2,fun b hb'=>(h3 b hb').imp id (fun h=>Nat.le_trans hb.size h)⟩,(Outside.of_below hb).trans h.out,h.lo,h.hi,h.len,h.sz⟩
theorem tk_none {w:World} {pb:Nat} {G Fx:List Nat} {v0 v1 v2:Value} {E:List TV} {s:Int} {F:List Nat} (h1:BookG w pb v0 v1 v2 E s) (h2:G=deskB pb v0 v1 v2++F) (h3:G.Nodup) (h4:BkEnts w AllT AllF 0 E F) (h5:0<=s) (h6:s<=4611686018427387904) (h7:E.length<=40000) (h8:s<33554432->1200*E.length<=s):
 Tk w w pb G Fx v0 v1 v2 E s E.length E.length:=
 ⟨h1,⟨F,h4.imp (fun j _ hj=>⟨fun _=>trivial,fun h=>by omega⟩),h2▸h3,fun b hb=>.inl (List.mem_append_left _ (h2▸hb))⟩,Outside.refl _ _,h5,h6,h7,h8⟩
theorem tk_some {t:T} {w w':World} {pb:Nat} {G Fx:List Nat} {v0 v1 v2:Value} {E:List TV} {s:Int} {F:List Nat} {e:Ending} (h1:BookG w pb v0 v1 v2 E s) (h2:G=deskB pb v0 v1 v2++F) (h3:G.Nodup) (h4:BkEnts w AllT AllF 0 E F) (h5:0<=s) (hs:s<33554432) (h8:s<33554432->1200*E.length<=s)
 (hg:GatherPost t Fx w pb v0 v1 v2 E s e w') (hn:t.nodes<=4096) (hFx:Fx.Nodup) (hap:∀ b∈Fx,b ∉ G) (hlt:∀ b∈Fx,b<w.heap.size):
 ∃ u0 u1 u2 L s',Tk w w' pb G Fx u0 u1 u2 (E++L) s' E.length E.length:=by
 obtain ⟨_,u0,u1,u2,L,s',hp,hL,hl,a1,a2⟩:=hg
 have h8:=h8 hs
 have hF:∀ b∈F,b<w.heap.size:=h4.lt
 have hd:∀ b∈deskB pb v0 v1 v2,b<w.heap.size:=h1.lt
 have hnod:=List.nodup_append.1 (h2▸h3)
 have hF1:∀ b∈F,b ∉ deskB pb v0 v1 v2:=fun b hb hc=>hnod.2.2 b hc b hb rfl
 have hX1:∀ b∈Fx,b ∉ deskB pb v0 v1 v2:=fun b hb hc=>hap b hb (h2▸List.mem_append_left _ hc)
 have hX2:∀ b∈Fx,b ∉ F:=fun b hb hc=>hap b hb (h2▸List.mem_append_right _ hc)
 refine ⟨u0,u1,u2,L,s',hp.book,⟨F++Fx,BkEnts.app ?_ ?_,?_,?_⟩,?_,by omega,by omega,by rw [List.length_append];omega,fun h=>by rw [List.length_append];omega⟩
 ·exact (h4.keptOut hp.out hF1).imp (fun j _ hj=>⟨fun _=>trivial,fun h=>by omega⟩)
 ·rw [Nat.zero_add]
  exact ((hL.keptOut hp.out hX1).shift (j:=E.length)).imp (fun j hj _=>⟨fun h=>by omega,fun _=>trivial⟩)
 ·refine List.nodup_append.2 ⟨hp.nodup,List.nodup_append.2 ⟨hnod.2.1,hFx,fun a ha b hb e=>hX2 b hb (e▸ha)⟩,fun a ha b hb e=>?_⟩
  subst e
  rcases hp.new a ha with h|h
  ·rcases List.mem_append.1 hb with hb|hb
   ·exact hF1 a hb h
   ·exact hX1 a hb h
  ·rcases List.mem_append.1 hb with hb|hb
   ·have:=hF a hb;omega
   ·have:=hlt a hb;omega
 ·intro b hb
  rw [h2]
  rcases List.mem_append.1 hb with hb|hb
  ·rcases hp.new b hb with h|h
   ·exact .inl (by simp [h])
   ·exact .inr h
  ·rcases List.mem_append.1 hb with hb|hb
   ·exact .inl (by simp [hb])
   ·exact .inl (by simp [hb])
 ·rw [h2]
  exact hp.out.mono (fun b hb=>by simp [hb])
theorem Tk.opens {w wr:World} {pb:Nat} {G Fx:List Nat} {v0 v1 v2:Value} {E:List TV} {s:Int} {k m:Nat} (h:Tk w wr pb G Fx v0 v1 v2 E s k m) {q:Nat} (hq:q<E.length):
 ∃ y F1 F2 F3 g0 c0 g1 c1 g2 c2,E[q]? =some y/\v0=.slice (some ⟨g0,0,none⟩) E.length c0/\v1=.slice (some ⟨g1,0,none⟩) E.length c1/\v2=.slice (some ⟨g2,0,none⟩) E.length c2/\E.length<=c0/\E.length<=c1/\E.length<=c2/\(g0≠g1/\g0≠g2/\g1≠g2)/\
  (∀ w',Outside (F1++F2++F3) wr w'->Desk w' pb g0 g1 g2 E.length c0 c1 c2 q s y)/\Fill wr wr y q F1 F2 F3 0 0 0/\(q<k->Fill wr wr y q F1 F2 F3 y.sl y.al y.kl)/\(m<=q->y.sl<=17592186044416/\y.al<=17592186044416/\y.kl<=2199023255552)/\
  (q=k->∀ w',Fill wr w' y q F1 F2 F3 y.sl y.al y.kl->Tk w w' pb G Fx v0 v1 v2 E s (k+1) m)/\
  (q<k->q=m->∀ w' n1 n2 n3,Fill wr w' y q F1 F2 F3 n1 n2 n3->n1<=y.sc->n2<=y.ac->n3<=y.kc->Tk w (((w'.setCell ⟨g0,q,none⟩ (.slice y.sa n1 y.sc)).setCell ⟨g1,q,none⟩ (.slice y.aa n2 y.ac)).setCell ⟨g2,q,none⟩ (.slice y.ka n3 y.kc)) pb G Fx v0 v1 v2 (E.set q { y with sl:=n1,al:=n2,kl:=n3 }) s k (m+1)):=by
 obtain ⟨F,hE,hN,hG⟩:=h.ex
 have hy:E[q]? =some E[q]:=List.getElem?_eq_getElem hq
 obtain ⟨g0,c0,g1,c1,g2,c2,e0,e1,e2,l0,l1,l2,hD⟩:=h.book.desk hy
 have hNa:=List.nodup_append.1 hN
 obtain ⟨F1,F2,F3,hB,hn,hs,hc⟩:=hE.at_ hNa.2.1 hy
 rw [Nat.zero_add] at hB hc
 generalize E[q]=y at*
 have hdis:∀ b∈deskB pb v0 v1 v2,b ∉ F:=fun b hb hc=>hNa.2.2 b hb b hc rfl
 have hdf:∀ b∈deskB pb v0 v1 v2,b ∉ F1++F2++F3:=fun b hb hc=>hdis b hb (hs b hc)
 have hdl:∀ b∈deskB pb v0 v1 v2,b<wr.heap.size:=h.book.lt
 have hFl:∀ b∈F,b<wr.heap.size:=hE.lt
 have hg0:g0∈deskB pb v0 v1 v2:=by rw [mem4,e0];exact .inr (.inl rfl)
 have hg1:g1∈deskB pb v0 v1 v2:=by rw [mem4,e1];exact .inr (.inr (.inl rfl))
 have hg2:g2∈deskB pb v0 v1 v2:=by rw [mem4,e2];exact .inr (.inr (.inr rfl))
 have hpb:pb∈deskB pb v0 v1 v2:=by rw [mem4];exact .inl rfl
 have hin:∀ b∈F1++F2++F3,b∈G++Fx\/w.heap.size<=b:=fun b hb=>hG b (List.mem_append_right _ (hs b hb))
 have hout:∀ w',Outside (F1++F2++F3) wr w'->Outside (G++Fx) w w':=fun w' ho=>
  ⟨ho.os.trans h.out.os,ho.tape.trans h.out.tape,ho.output.trans h.out.output,Nat.le_trans h.out.size ho.size,fun b hb hbF=>(ho.block b (Nat.lt_of_lt_of_le hb h.out.size) (fun hm=>by rcases hin b hm with h|h;exact hbF h;omega)).trans (h.out.block b hb hbF)⟩
 have hgd:g0≠g1/\g0≠g2/\g1≠g2:=by
  obtain ⟨_,n2,n3⟩:=nodup4.1 hNa.1
  rw [e0,e1,e2] at n2
  rw [e1,e2] at n3
  exact ⟨fun e=>(n2 g0 rfl).1 (by rw [e];rfl),fun e=>(n2 g0 rfl).2 (by rw [e];rfl),fun e=>n3 g1 rfl (by rw [e];rfl)⟩
 refine ⟨y,F1,F2,F3,g0,c0,g1,c1,g2,c2,hy,e0,e1,e2,l0,l1,l2,hgd,fun w' ho=>?_,⟨hB.o1,hB.o2,hB.o3,Marks1.zero _ _ _,Marks1.zero _ _ _,Marks6.zero _ _ _,Outside.refl _ _,hn⟩,fun hk=>⟨hB.o1,hB.o2,hB.o3,hB.m1 hk,hB.m2 hk,hB.m3 hk,Outside.refl _ _,hn⟩,hB.s,fun hk w' hf=>?_,fun hk hm w' n1 n2 n3 hf h1 h2 h3=>?_⟩
 ·refine hD.kept (fun b hb=>ho.block b (hdl b ?_) (hdf b ?_))<;>(rcases hb with rfl|rfl|rfl|rfl<;>assumption)
 ·subst hk
  have hset:E.set q y=E:=by
   refine List.ext_getElem? (fun j=>?_)
   rw [List.getElem?_set]
   split
   ·subst_vars;simp [hy]
   ·rfl
  have hc':=hc w' y (·<q+1) (m<=·) (fun b hb hx=>hf.out.block b (hFl b hb) hx) ⟨hf.o1,hf.o2,hf.o3,fun _=>hf.m1,fun _=>hf.m2,fun _=>hf.m3,hB.s⟩ (fun j hj=>⟨fun h=>by omega,fun h=>h⟩)
  rw [hset] at hc'
  exact ⟨h.book.kept (fun b hb=>hf.out.block b (hdl b hb) (hdf b hb)),⟨F,hc',hN,hG⟩,hout w' hf.out,h.lo,h.hi,h.len,h.sz⟩
 ·subst hm
  subst e0
  subst e1
  subst e2
  have hbk:=(h.book.kept (fun b hb=>hf.out.block b (hdl b hb) (hdf b hb)):BookG w' pb _ _ _ E s).put hNa.1 q hq { y with sl:=n1,al:=n2,kl:=n3 }
  rw [List.length_set] at hbk
  have hk3:∀ b,b ∉ deskB pb (.slice (some ⟨g0,0,none⟩) E.length c0) (.slice (some ⟨g1,0,none⟩) E.length c1) (.slice (some ⟨g2,0,none⟩) E.length c2)->(((w'.setCell ⟨g0,q,none⟩ (.slice y.sa n1 y.sc)).setCell ⟨g1,q,none⟩ (.slice y.aa n2 y.ac)).setCell ⟨g2,q,none⟩ (.slice y.ka n3 y.kc)).heap[b]? =w'.heap[b]? :=fun b hb=>
   (Below.heap_setCell _ _ _ _ (fun e=>hb (by have e:b=g2:=e;rw [e];exact hg2))).trans ((Below.heap_setCell _ _ _ _ (fun e=>hb (by have e:b=g1:=e;rw [e];exact hg1))).trans (Below.heap_setCell _ _ _ _ (fun e=>hb (by have e:b=g0:=e;rw [e];exact hg0))))
  have hkF:∀ b∈F,(((w'.setCell ⟨g0,q,none⟩ (.slice y.sa n1 y.sc)).setCell ⟨g1,q,none⟩ (.slice y.aa n2 y.ac)).setCell ⟨g2,q,none⟩ (.slice y.ka n3 y.kc)).heap[b]? =w'.heap[b]? :=fun b hb=>hk3 b (fun hc=>hdis b hc hb)
  have k1:=fun b (hb:b∈F1)=>hkF b (hs b (by simp [hb]))
  have k2:=fun b (hb:b∈F2)=>hkF b (hs b (by simp [hb]))
  have k3:=fun b (hb:b∈F3)=>hkF b (hs b (by simp [hb]))
  have hc':=hc _ { y with sl:=n1,al:=n2,kl:=n3 } (·<k) (q+1<=·) (fun b hb hx=>(hkF b hb).trans (hf.out.block b (hFl b hb) hx))
   ⟨(hf.o1.len h1).kept k1,(hf.o2.len h2).kept k2,(hf.o3.len h3).kept k3,fun _=>hf.m1.len hf.o1 h1 k1,fun _=>hf.m2.len hf.o2 h2 k2,fun _=>hf.m3.len hf.o3 h3 k3,fun h=>by omega⟩ (fun j hj=>⟨fun h=>h,fun h=>by omega⟩)
  refine ⟨hbk,⟨F,hc',hN,hG⟩,?_,h.lo,h.hi,by rw [List.length_set];exact h.len,by rw [List.length_set];exact h.sz⟩
  have ho:=hout w' hf.out
  refine ((ho.set ?_ _).set ?_ _).set ?_ _
  ·exact hG g0 (List.mem_append_left _ hg0)
  ·exact hG g1 (List.mem_append_left _ hg1)
  ·exact hG g2 (List.mem_append_left _ hg2)
structure Seen (W:World) (pb g0 g1 g2 n c0 c1 c2 K:Nat) (s:Int) (y:TV):Prop where
 desk:Desk W pb g0 g1 g2 n c0 c1 c2 K s y
 m1:Marks1 W y.sa y.sl (1099511627776+K)
 m2:Marks1 W y.aa y.al (-2199023255552-K)
 m3:Marks6 W y.ka y.kl (4398046511104+K)
theorem whole_entry {w:World} {pb:Nat} {v0 v1 v2:Value} {E:List TV} {s:Int} {F:List Nat} (h1:BookG w pb v0 v1 v2 E s) (h4:BkEnts w AllT AllF 0 E F) (hn:(deskB pb v0 v1 v2++F).Nodup) {K:Nat} (hK:K<E.length):
 ∃ y g0 c0 g1 c1 g2 c2,E.length<=c0/\E.length<=c1/\E.length<=c2/\(0<y.sl->∃ b,y.sa=some ⟨b,0,none⟩/\b<w.heap.size)/\(0<y.al->∃ b,y.aa=some ⟨b,0,none⟩/\b<w.heap.size)/\(0<y.kl->∃ b,y.ka=some ⟨b,0,none⟩/\b<w.heap.size)/\y.sl<=y.sc/\y.al<=y.ac/\y.kl<=y.kc/\y.sc<=maxLen/\y.ac<=maxLen/\y.kc<=maxLen/\
  ∀ W,Below w.heap.size w W->Seen W pb g0 g1 g2 E.length c0 c1 c2 K s y:=by
 obtain ⟨y,hy⟩:∃ y,E[K]? =some y:=⟨_,List.getElem?_eq_getElem hK⟩
 obtain ⟨g0,c0,g1,c1,g2,c2,e0,e1,e2,l0,l1,l2,hD⟩:=h1.desk hy
 obtain ⟨F1,F2,F3,hB,hn',hs,_⟩:=h4.at_ (List.nodup_append.1 hn).2.1 hy
 rw [Nat.zero_add] at hB
 have hdl:∀ b∈deskB pb v0 v1 v2,b<w.heap.size:=h1.lt
 have hlt:=hB.lt
 have bl:∀ {ty size:Nat} {A:Option Addr} {len cap:Nat} {G:List Nat},OwnB w ty size A len cap G->0<len->∃ b,A=some ⟨b,0,none⟩/\b<w.heap.size:=fun ho h=>by
  obtain ⟨b,e,hF⟩:=ho.block h
  exact ⟨b,e,ho.lt b (by simp [hF])⟩
 refine ⟨y,g0,c0,g1,c1,g2,c2,l0,l1,l2,bl hB.o1,bl hB.o2,bl hB.o3,hB.o1.bounds.1,hB.o2.bounds.1,hB.o3.bounds.1,hB.o1.bounds.2,hB.o2.bounds.2,hB.o3.bounds.2,fun W hW=>?_⟩
 refine ⟨hD.kept (fun b hb=>hW.block b (hdl b ?_)),(hB.m1 trivial).kept hB.o1 (Nat.le_refl _) (fun b hb=>hW.block b (hB.o1.lt b hb)),(hB.m2 trivial).kept hB.o2 (Nat.le_refl _) (fun b hb=>hW.block b (hB.o2.lt b hb)),(hB.m3 trivial).kept hB.o3 (Nat.le_refl _) (fun b hb=>hW.block b (hB.o3.lt b hb))⟩
 rw [mem4,e0,e1,e2]
 rcases hb with rfl|rfl|rfl|rfl
 ·exact .inl rfl
 ·exact .inr (.inl rfl)
 ·exact .inr (.inr (.inl rfl))
 ·exact .inr (.inr (.inr rfl))
set_option maxRecDepth 100000 in
set_option maxHeartbeats 2000000 in
theorem whole_calls (w:World) (pb:Nat) (G:List Nat) (hB:BookS w pb G):
 Calls Tryz.prog 18 #[.pointer (some ⟨pb,0,none⟩)] w (fun e w'=>e=.returned (.bool true)/\Below w.heap.size w w'):=by
 obtain ⟨v0,v1,v2,E,s,F,hbk,hG,hGN,hEn,hs0,hs1,hEl,hsz⟩:=hB
 obtain ⟨p2,d2,e2,hd2⟩:=ownsRow_form (by have:=hbk.r2;rwa [List.length_map] at this:w.ownsRow 0 32 1 v2 E.length (E.map kV))
 have HC2:=hid (fun (W:World) (h:Below w.heap.size w W)=>(show W.cell? ⟨pb,2,none⟩=some (.slice p2 E.length d2) from (h.cell (p:=⟨pb,2,none⟩) (hbk.lt pb (by simp [deskB]))).trans (hbk.c2.trans (congrArg some e2))))
 have HEN:=hid (fun (K:Nat) (hK:K<E.length)=>whole_entry hbk hEn (hG▸hGN) hK)
 clear hbk hG hGN hEn hsz
 go_enter Tryz.func18,Tryz.ntmps18
 go_wp2_with fail
 go_loopw [3] (fun i wr=>∃ K:Nat,K<=E.length/\i=.int .i64 K/\Below w.heap.size w wr) (fun i _=>E.length-(intOf i).toNat)
 case atStart=>exact ⟨0,Nat.zero_le _,rfl,Below.refl _ _⟩
 case round=>
  obtain ⟨K,hK,rfl,hb⟩:=hrel
  have HB:=hid hb
  have k2:=HC2.out _ hb
  clear hb
  by_cases hlt:K<E.length
  case neg=>
   go_wp2_with fail
   go_ret
   exact ⟨rfl,HB.out⟩
  obtain ⟨y,g0,c0,g1,c1,g2,c2,l0,l1,l2,b1,b2,b3,n1,n2,n3,x1,x2,x3,hS⟩:=HEN.out K hlt
  have HS:=hid hS
  have HBL1:=hid b1
  have HBL2:=hid b2
  have HBL3:=hid b3
  clear hS b1 b2 b3
  unfold maxLen at x1 x2 x3
  have r1:IntKind.i64.wrap (1099511627776+(K:Int))=1099511627776+K:=by rw [IntKind.wrap_i64];omega
  have r2:IntKind.i64.wrap (-2199023255552-(K:Int))=-2199023255552-K:=by rw [IntKind.wrap_i64];omega
  have r3:IntKind.i64.wrap (4398046511104+(K:Int))=4398046511104+K:=by rw [IntKind.wrap_i64];omega
  have i0:(0:Int)<=(K:Int):=by omega
  have i1:(K:Int)<(E.length:Int):=by omega
  go_wp2_with fail
  clear k2
  go_loopw [4] (fun i wr=>∃ N:Nat,N<=y.sl/\i=.int .i64 N/\Below w.heap.size w wr) (fun i _=>y.sl-(intOf i).toNat)
  case atStart=>exact ⟨0,Nat.zero_le _,rfl,HB.out⟩
  case round=>
   obtain ⟨N,hN,rfl,hb⟩:=hrel
   have HB1:=hid hb
   have hseen:=HS.out _ hb
   have p0:=hseen.desk.p0
   have p1:=hseen.desk.p1
   have p2':=hseen.desk.p2
   have q0:=hseen.desk.e0
   by_cases hlt1:N<y.sl
   ·obtain ⟨b,hA,hbl⟩:=HBL1.out (by omega)
    have m:=hseen.m1 b hA N hlt1
    rw [hA] at q0
    have j0:(0:Int)<=(N:Int):=by omega
    have j1:(N:Int)<(y.sl:Int):=by omega
    clear hseen hb
    go_wp2_with fail
    go_roundw
    case rel=>exact ⟨N+1,by omega,by go_num,HB1.out⟩
    case measure=>simp [intOf];omega
   ·have hNe:N=y.sl:=by omega
    clear hseen hb HB
    go_wp2_with fail
    clear p0 p1 p2' q0
    go_loopw [5] (fun i wr=>∃ N:Nat,N<=y.al/\i=.int .i64 N/\Below w.heap.size w wr) (fun i _=>y.al-(intOf i).toNat)
    case atStart=>exact ⟨0,Nat.zero_le _,rfl,HB1.out⟩
    case round=>
     obtain ⟨N,hN,rfl,hb⟩:=hrel
     have HB2:=hid hb
     have hseen:=HS.out _ hb
     have p0:=hseen.desk.p0
     have p1:=hseen.desk.p1
     have p2':=hseen.desk.p2
     have q0:=hseen.desk.e1
     by_cases hlt1:N<y.al
     ·obtain ⟨b,hA,hbl⟩:=HBL2.out (by omega)
      have m:=hseen.m2 b hA N hlt1
      rw [hA] at q0
      have j0:(0:Int)<=(N:Int):=by omega
      have j1:(N:Int)<(y.al:Int):=by omega
      clear hseen hb
      go_wp2_with fail
      go_roundw
      case rel=>exact ⟨N+1,by omega,by go_num,HB2.out⟩
      case measure=>simp [intOf];omega
     ·clear hseen hb HB1
      go_wp2_with fail
      clear p0 p1 p2' q0
      go_loopw [6] (fun i wr=>∃ N:Nat,N<=y.kl/\i=.int .i64 N/\Below w.heap.size w wr) (fun i _=>y.kl-(intOf i).toNat)
      case atStart=>exact ⟨0,Nat.zero_le _,rfl,HB2.out⟩
      case round=>
       obtain ⟨N,hN,rfl,hb⟩:=hrel
       have HB3:=hid hb
       have hseen:=HS.out _ hb
       have p0:=hseen.desk.p0
       have p1:=hseen.desk.p1
       have p2':=hseen.desk.p2
       have q0:=hseen.desk.e2
       by_cases hlt1:N<y.kl
       ·obtain ⟨b,hA,hbl⟩:=HBL3.out (by omega)
        obtain ⟨m0,m1,m2,m3,m4,m5⟩:=hseen.m3 b hA N hlt1
        simp only [markN] at m0 m1 m2 m3 m4 m5
        rw [hA] at q0
        have j0:(0:Int)<=(N:Int):=by omega
        have j1:(N:Int)<(y.kl:Int):=by omega
        clear hseen hb
        go_wp2_with fail
        go_roundw
        case rel=>exact ⟨N+1,by omega,by go_num,HB3.out.alloc HB3.out.size _⟩
        case measure=>simp [intOf];omega
       ·clear hseen hb HB2
        go_wp2_with fail
        go_roundw
        case rel=>exact ⟨K+1,by omega,by go_num,HB3.out⟩
        case measure=>simp [intOf];omega
theorem Tk.drew {w wr:World} {pb:Nat} {G Fx:List Nat} {v0 v1 v2:Value} {E:List TV} {s:Int} {k m:Nat} (h:Tk w wr pb G Fx v0 v1 v2 E s k m):Tk w wr.drew pb G Fx v0 v1 v2 E s k m:=by
 obtain ⟨F,h1,h2,h3⟩:=h.ex
 exact ⟨h.book.drewN 1,⟨F,h1.kept (fun _ _=>rfl),h2,h3⟩,⟨h.out.os,h.out.tape,h.out.output,h.out.size,h.out.block⟩,h.lo,h.hi,h.len,h.sz⟩
theorem fill_cell {wk wr:World} {y:TV} {i:Nat} {F1 F2 F3:List Nat} {n1 n2 n3:Nat} (h:Fill wk wr y i F1 F2 F3 n1 n2 n3):
 (n1<y.sc->∃ b u,y.sa=some ⟨b,0,none⟩/\wr.cell? ⟨b,n1,none⟩=some u/\∀ o,wr.frozen? ⟨b,o,none⟩=false)/\
 (n2<y.ac->∃ b u,y.aa=some ⟨b,0,none⟩/\wr.cell? ⟨b,n2,none⟩=some u/\∀ o,wr.frozen? ⟨b,o,none⟩=false)/\
 (n3<y.kc->∃ b u0 u1 u2 u3 u4 u5,y.ka=some ⟨b,0,none⟩/\wr.cell? ⟨b,n3*6,none⟩=some u0/\wr.cell? ⟨b,n3*6+1,none⟩=some u1/\wr.cell? ⟨b,n3*6+2,none⟩=some u2/\wr.cell? ⟨b,n3*6+3,none⟩=some u3/\wr.cell? ⟨b,n3*6+4,none⟩=some u4/\wr.cell? ⟨b,n3*6+5,none⟩=some u5/\∀ o,wr.frozen? ⟨b,o,none⟩=false):=by
 refine ⟨fun h0=>?_,fun h0=>?_,fun h0=>?_⟩
 ·obtain ⟨b,e,_,hR⟩:=h.o1.room (by omega)
  obtain ⟨u,hu⟩:=hR.cell (o:=n1) (by omega)
  exact ⟨b,u,e,hu,fun o=>hR.free o⟩
 ·obtain ⟨b,e,_,hR⟩:=h.o2.room (by omega)
  obtain ⟨u,hu⟩:=hR.cell (o:=n2) (by omega)
  exact ⟨b,u,e,hu,fun o=>hR.free o⟩
 ·obtain ⟨b,e,_,hR⟩:=h.o3.room (by omega)
  obtain ⟨u0,h0⟩:=hR.cell (o:=n3*6) (by omega)
  obtain ⟨u1,h1⟩:=hR.cell (o:=n3*6+1) (by omega)
  obtain ⟨u2,h2⟩:=hR.cell (o:=n3*6+2) (by omega)
  obtain ⟨u3,h3⟩:=hR.cell (o:=n3*6+3) (by omega)
  obtain ⟨u4,h4⟩:=hR.cell (o:=n3*6+4) (by omega)
  obtain ⟨u5,h5⟩:=hR.cell (o:=n3*6+5) (by omega)
  exact ⟨b,u0,u1,u2,u3,u4,u5,e,h0,h1,h2,h3,h4,h5,fun o=>hR.free o⟩
theorem wpList_append_inside {P:Program} (w:World) {ops:Array Oper} {rest:List Oper} {o:Oper} {a:Act} {Q:Exit->Act->World->Prop} (hg:o.guard=none) (s x:Operand) (t:TypeId)
 (ho:o.op=Op.call { callee:=Callee.builtin Builtin.append,args:=#[s,x],argTypes:=#[t,t] })
 (e:TypeId) (i:TypeInfo) (size:Nat) (h1:P.underlying t=some (.slice e)) (h2:P.info? e=some i) (h4:i.size=size)
 (b n cap:Nat) (hs:a.eval s=.slice (some ⟨b,0,none⟩) n cap)
 (ad:Addr) (m c:Nat) (news:List Value) (hx:a.eval x=.slice (some ad) m c) (hn:news.length=m*size) (hc:∀ j u,news[j]? =some u->w.cell? (ad.add j)=some u) (h1c:∀ u∈news,u.oneCell'=true)
 (hroom:n+m<=cap) (hspare:∀ j,j<news.length->(w.cell? ⟨b,n*size+j,none⟩).isSome=true) (hfree:∀ j,w.frozen? ⟨b,j,none⟩=false)
 (h:wpList P ops Q rest (a.put o.dst (.slice (some ⟨b,0,none⟩) (n+m) cap)) (w.setCells b (n*size) news)):wpList P ops Q (o::rest) a w:=by
 refine wpList_plain hg fun K hK=>?_
 subst h4
 have hr:=run_append_room_cells (P:=P) w t o.type e i h1 h2 b 0 n cap ad m c news hn hc h1c hroom (fun j hj=>by rw [Nat.zero_add];exact hspare j hj) (fun j _=>hfree _)
 rw [Nat.zero_add] at hr
 unfold Oper.wp execOp
 simp only [ho,resolve,invoke,builtin,Sem.run_bind,Sem.run_pure,Result.andThen_ok,List.map_toArray,List.map_cons,List.map_nil,hs,hx,hr]
 exact hK _ _ h
theorem set_cells1 (w:World) (b o:Nat) (v:Value):w.setCells b o [v]=w.setCell ⟨b,o,none⟩ v:=rfl
theorem set_cells6 (w:World) (b o:Nat) (v0 v1 v2 v3 v4 v5:Value):w.setCells b o [v0,v1,v2,v3,v4,v5]=(((((w.setCell ⟨b,o,none⟩ v0).setCell ⟨b,o+1,none⟩ v1).setCell ⟨b,o+2,none⟩ v2).setCell ⟨b,o+3,none⟩ v3).setCell ⟨b,o+4,none⟩ v4).setCell ⟨b,o+5,none⟩ v5:=rfl
def lenV:Value->Nat
 |.slice _ n _=>n
 |_=>0
set_option maxRecDepth 100000 in
set_option maxHeartbeats 8000000 in
theorem take_calls (t:T) (x:TV) (Fx:List Nat) (w:World) (pb bt:Nat) (G:List Nat) (hB:BookS w pb G) (hO:Own w t x Fx) (hN:Fx.Nodup) (hap:∀ b∈Fx,b ∉ G) (hlt:∀ b∈Fx,b<w.heap.size) (hn:t.nodes<=4096) (hat:At w bt 0 x):
 Calls Tryz.prog 16 #[.pointer (some ⟨pb,0,none⟩),.slice (some ⟨bt,0,none⟩) 1 1] w (TakePost w pb G Fx):=by
 obtain ⟨v0,v1,v2,E,s,F,hbk,hG,hGN,hEn,hs0,hs1,hEl,hsz⟩:=hB
 obtain ⟨p2,d2,e2,hd2⟩:=ownsRow_form (by have:=hbk.r2;rwa [List.length_map] at this:w.ownsRow 0 32 1 v2 E.length (E.map kV))
 have HT0:=hid (tk_none (Fx:=Fx) hbk hG hGN hEn hs0 hs1 hEl hsz)
 have HGA:=hid (fun (hs:s<33554432)=>gather_all t x Fx w pb v0 v1 v2 E s hO hbk (by rw [hG] at hGN;exact (List.nodup_append.1 hGN).1) (fun b hb hm=>hap b hb (by rw [hG];exact List.mem_append_left _ hm)) hlt hs0 (by omega) (by have:=hsz hs;omega))
 have HT1:=hid (fun (hs:s<33554432) (e:Ending) (w':World) (hg:GatherPost t Fx w pb v0 v1 v2 E s e w')=>tk_some hbk hG hGN hEn hs0 hs hsz hg hn hN hap hlt)
 have c2:=hbk.c2
 have c3:=hbk.c3
 have HC3:=hid c3
 rw [e2] at c2
 obtain ⟨q0,q1,q2,q3,q4,q5⟩:=hat
 simp only [TV.val,TV.cells] at HGA
 clear hbk hG hGN hEn hO hN hap hlt hn hsz
 go_enter Tryz.func16,Tryz.ntmps16
 go_wp2_with fail
 go_loopw [5] (fun i wr=>∃ (I:Nat) (u0 u1 u2:Value) (E':List TV) (s':Int),I<=1/\i=.int .i64 I/\E.length<=E'.length/\Tk w wr pb G Fx u0 u1 u2 E' s' E.length E.length/\(I=0->wr=w/\s'=s)) (fun i _=>1-(intOf i).toNat)
 case atStart=>exact ⟨0,v0,v1,v2,E,s,by omega,rfl,Nat.le_refl _,HT0.out,fun _=>⟨rfl,rfl⟩⟩
 case round=>
  obtain ⟨I,u0,u1,u2,E',s',hI,rfl,hEE,htk,h0⟩:=hrel
  have k3:=htk.book.c3
  have HTK:=hid htk
  clear htk
  rcases (show (I<1/\s'<33554432)\/(¬I<1\/(I<1/\¬s'<33554432)) from by omega) with ⟨h1,h2⟩|hexit
  ·have hI0:I=0:=by omega
   subst hI0
   obtain ⟨rfl,rfl⟩:=h0 rfl
   clear k3
   go_wp2_with fail
   refine (HGA.out h2).mono ?_
   rintro e w2 hg
   obtain ⟨x0,x1,x2,L,s2,htk2⟩:=HT1.out h2 _ _ hg
   have he:=hg.1
   subst he
   have HTK2:=hid htk2
   clear hg htk2
   go_wp2_with fail
   go_roundw
   case rel=>exact ⟨1,x0,x1,x2,E++L,s2,by omega,by go_num,by simp,HTK2.out,fun h=>by omega⟩
   case measure=>simp [intOf]
  ·clear q0 q1 q2 q3 q4 q5 c2 c3 h0
   rcases hexit with hexit|⟨hexit,hex2⟩
   case' inl=>obtain rfl:I=1:=by omega
   case' inr=>obtain rfl:I=0:=by omega
   all_goals
    go_wp2_with fail
    clear k3
    go_loopw [6] (fun k wr=>∃ K:Nat,E.length<=K/\K<=E'.length/\k=.int .i64 K/\Tk w wr pb G Fx u0 u1 u2 E' s' K E.length) (fun k _=>E'.length-(intOf k).toNat)
    case atStart=>exact ⟨E.length,Nat.le_refl _,hEE,rfl,HTK.out⟩
    case round=>
     obtain ⟨K,hK0,hK,rfl,hrel⟩:=hrel
     obtain ⟨wk,hwk⟩:∃ wk:World,wk=wr:=⟨_,rfl⟩
     subst hwk
     obtain ⟨p3,d3,e3,hd3⟩:=ownsRow_form (by have:=hrel.book.r2;rwa [List.length_map] at this:wk.ownsRow 0 32 1 u2 E'.length (E'.map kV))
     have k2:=hrel.book.c2
     rw [e3] at k2
     have hlen:=hrel.len
     by_cases hlt:K<E'.length
     case neg=>
      obtain rfl:K=E'.length:=by omega
      have HT3:=hid hrel
      clear hrel
      go_wp2_with fail
      clear k2 e3
      go_loopw [10] (fun k wr=>∃ (Q:Nat) (E2:List TV),E2.length=E'.length/\E.length<=Q/\Q<=E'.length/\k=.int .i64 Q/\Tk w wr pb G Fx u0 u1 u2 E2 s' E'.length Q) (fun k _=>E'.length-(intOf k).toNat)
      case atStart=>exact ⟨E.length,E',rfl,Nat.le_refl _,hEE,rfl,HT3.out⟩
      case round=>
       obtain ⟨Q,E2,hE2,hQ0,hQ,rfl,hrel⟩:=hrel
       obtain ⟨wq,hwq⟩:∃ wq:World,wq=wr:=⟨_,rfl⟩
       subst hwq
       obtain ⟨p4,d4,e4,hd4⟩:=ownsRow_form (by have:=hrel.book.r2;rwa [List.length_map] at this:wq.ownsRow 0 32 1 u2 E2.length (E2.map kV))
       have k2:=hrel.book.c2
       rw [e4,hE2] at k2
       by_cases hlt:Q<E'.length
       case neg=>
        have HP:=hid (hrel.ends (by omega))
        clear hrel e4
        go_wp2_with fail
        refine bodyPost_ret (results_none rfl _ _ _) rfl HP.out
       obtain ⟨y,F1,F2,F3,g0,c0,g1,c1,g2,c2,hy,e0,e1,e2',l0,l1,l2,⟨gd1,gd2,gd3⟩,hD,_,hF,hS,_,hC⟩:=hrel.opens (q:=Q) (by omega)
       obtain ⟨hs1',hs2',hs3'⟩:=hS (Nat.le_refl _)
       have hF:=hF hlt
       have HD:=hid (fun (W:World) (h:Outside (F1++F2++F3) wq W)=>(show Desk W pb g0 g1 g2 E'.length c0 c1 c2 Q s' y from hE2▸hD W h))
       have HF0:=hid hF
       have HC:=hid (hC hlt rfl)
       obtain ⟨n1,x1⟩:=hF.o1.bounds
       obtain ⟨n2,x2⟩:=hF.o2.bounds
       obtain ⟨n3,x3⟩:=hF.o3.bounds
       rw [hE2] at l0 l1 l2
       have HFA:=hid (show ∀ W:World,Calls Tryz.prog 38 #[.int .i64 y.sl,.int .i64 y.sc] W (fun e w'=>e=.returned (.int .i64 (farN y.sl y.sc))/\w'=W) from fun W=>far_calls y.sl y.sc W (by omega) x1)
       have HFB:=hid (show ∀ W:World,Calls Tryz.prog 38 #[.int .i64 y.al,.int .i64 y.ac] W (fun e w'=>e=.returned (.int .i64 (farN y.al y.ac))/\w'=W) from fun W=>far_calls y.al y.ac W (by omega) x2)
       have HFC:=hid (show ∀ W:World,Calls Tryz.prog 38 #[.int .i64 y.kl,.int .i64 y.kc] W (fun e w'=>e=.returned (.int .i64 (farN y.kl y.kc))/\w'=W) from fun W=>far_calls y.kl y.kc W (by omega) x3)
       have m1:y.sl<=farN y.sl y.sc/\farN y.sl y.sc<=y.sc:=by unfold farN;omega
       have m2:y.al<=farN y.al y.ac/\farN y.al y.ac<=y.ac:=by unfold farN;omega
       have m3:y.kl<=farN y.kl y.kc/\farN y.kl y.kc<=y.kc:=by unfold farN;omega
       have x1':=x1
       have x2':=x2
       have x3':=x3
       unfold maxLen at x1 x2 x3
       generalize farN y.sl y.sc=f1 at HFA m1
       generalize farN y.al y.ac=f2 at HFB m2
       generalize farN y.kl y.kc=f3 at HFC m3
       have r1:IntKind.i64.wrap (1099511627776+(Q:Int))=1099511627776+Q:=by rw [IntKind.wrap_i64];omega
       have r2:IntKind.i64.wrap (-2199023255552-(Q:Int))=-2199023255552-Q:=by rw [IntKind.wrap_i64];omega
       have r3:IntKind.i64.wrap (4398046511104+(Q:Int))=4398046511104+Q:=by rw [IntKind.wrap_i64];omega
       have i0:(0:Int)<=(Q:Int):=by omega
       have i1:(Q:Int)<(E'.length:Int):=by omega
       obtain ⟨p0,p1,p2',_,q0,q1,q2,_,_,_⟩:=HD.out wq (Outside.refl _ _)
       clear hD hF hC hrel hy e0 e1 e2' e4 k2
       go_wp2_with fail
       go_quiet (fail)
       go_wp2_with fail
       refine (HFA.out _).mono ?_
       rintro e w2 ⟨rfl,rfl⟩
       clear p0 p1 p2' q0 q1 q2
       go_wp2_with fail
       go_loopw [11] (fun v wr=>∃ N:Nat,y.sl<=N/\N<=f1/\v=.slice y.sa N y.sc/\Fill wq wr y Q F1 F2 F3 N y.al y.kl) (fun v _=>f1-lenV v)
       case atStart=>exact ⟨y.sl,Nat.le_refl _,m1.1,rfl,HF0.out.below n1 n2 n3 (by first|exact below_drewN (Below.refl _ _) _|exact (Below.refl _ _).drew|exact Below.refl _ _)⟩
       case round=>
        obtain ⟨N,hN0,hN,rfl,hf⟩:=hrel
        have HF:=hid hf
        by_cases hlt1:N<f1
        ·obtain ⟨b,v,hA,hc,hfz⟩:=(fill_cell hf).1 (by omega)
         obtain ⟨j0,hj0,hz0,hz1,hz2⟩:=info_parts info_int0
         have hbl:b<wr.heap.size:=World.block_lt_of_cell? wr _ hc
         have HNX:=hid ((hf.next1 hA (by omega) n2 n3).below (by omega) n2 n3 ((Below.refl _ _).alloc (Nat.le_refl _) (.cells #[.int .i64 (1099511627776+(Q:Int))] 3)))
         clear hf
         rw [hA]
         go_wp2_with (at_builtin;refine wpList_append_inside _ rfl _ _ 28 rfl 3 j0 1 Tryz.underlying28 hj0 hz1 b N y.sc rfl ⟨wr.heap.size,0,none⟩ 1 1 [.int .i64 (1099511627776+(Q:Int))] rfl rfl (cell_one_new _ _ _) (by intro u hu;simp at hu;subst hu;rfl) (by omega) (by intro j hj;simp at hj;subst hj;simp [hbl,hc]) (by intro j;simp [hbl,hfz]) ?_;simp only [set_cells1,Nat.mul_one])
         go_roundw
         case rel=>with_reducible exact ⟨N+1,by omega,by omega,rfl,HNX.out⟩
         case measure=>simp [lenV];omega
        ·obtain rfl:N=f1:=by omega
         clear hf
         go_wp2_with fail
         refine (HFB.out _).mono ?_
         rintro e w2 ⟨rfl,rfl⟩
         go_wp2_with fail
         go_loopw [12] (fun v wr=>∃ M:Nat,y.al<=M/\M<=f2/\v=.slice y.aa M y.ac/\Fill wq wr y Q F1 F2 F3 N M y.kl) (fun v _=>f2-lenV v)
         case atStart=>exact ⟨y.al,Nat.le_refl _,m2.1,rfl,HF.out⟩
         case round=>
          obtain ⟨M,hM0,hM,rfl,hf⟩:=hrel
          have HF:=hid hf
          by_cases hlt1:M<f2
          ·obtain ⟨b,v,hA,hc,hfz⟩:=(fill_cell hf).2.1 (by omega)
           obtain ⟨j0,hj0,hz0,hz1,hz2⟩:=info_parts info_int640
           have hbl:b<wr.heap.size:=World.block_lt_of_cell? wr _ hc
           have HNX:=hid ((hf.next2 hA m1.2 (by omega) n3).below m1.2 (by omega) n3 ((Below.refl _ _).alloc (Nat.le_refl _) (.cells #[.int .i64 (-2199023255552-(Q:Int))] 2)))
           clear hf
           rw [hA]
           go_wp2_with (at_builtin;refine wpList_append_inside _ rfl _ _ 29 rfl 2 j0 1 Tryz.underlying29 hj0 hz1 b M y.ac rfl ⟨wr.heap.size,0,none⟩ 1 1 [.int .i64 (-2199023255552-(Q:Int))] rfl rfl (cell_one_new _ _ _) (by intro u hu;simp at hu;subst hu;rfl) (by omega) (by intro j hj;simp at hj;subst hj;simp [hbl,hc]) (by intro j;simp [hbl,hfz]) ?_;simp only [set_cells1,Nat.mul_one])
           go_roundw
           case rel=>with_reducible exact ⟨M+1,by omega,by omega,rfl,HNX.out⟩
           case measure=>simp [lenV];omega
          ·obtain rfl:M=f2:=by omega
           clear hf
           go_wp2_with fail
           refine (HFC.out _).mono ?_
           rintro e w2 ⟨rfl,rfl⟩
           go_wp2_with fail
           go_loopw [13] (fun v wr=>∃ K:Nat,y.kl<=K/\K<=f3/\v=.slice y.ka K y.kc/\Fill wq wr y Q F1 F2 F3 N M K) (fun v _=>f3-lenV v)
           case atStart=>exact ⟨y.kl,Nat.le_refl _,m3.1,rfl,HF.out⟩
           case round=>
            obtain ⟨K,hK0,hK,rfl,hf⟩:=hrel
            have HF:=hid hf
            by_cases hlt1:K<f3
            ·obtain ⟨b,w0,w1,w2,w3,w4,w5,hA,hc0,hc1,hc2,hc3,hc4,hc5,hfz⟩:=(fill_cell hf).2.2 (by omega)
             obtain ⟨j0,hj0,hz0,hz1,hz2⟩:=info_parts info_term0
             have hbl:b<wr.heap.size:=World.block_lt_of_cell? wr _ hc0
             have HNX:=hid ((hf.next3 hA m1.2 m2.2 (by omega)).below m1.2 m2.2 (by omega) ((Below.refl _ _).alloc (Nat.le_refl _) (.cells (markN (4398046511104+(Q:Int))).cells 34)))
             simp only [markN,TV.cells] at HNX
             clear hf
             rw [hA]
             go_wp2_with (at_builtin;refine wpList_append_inside _ rfl _ _ 32 rfl 34 j0 6 Tryz.underlying32 hj0 hz1 b K y.kc rfl ⟨wr.heap.size,0,none⟩ 1 1 (markN (4398046511104+(Q:Int))).cells.toList rfl rfl (row_new wr (markN (4398046511104+(Q:Int))).cells _) (cells_one _) (by omega) (by intro j hj;simp [markN,TV.cells] at hj;(rcases (show j=0\/j=1\/j=2\/j=3\/j=4\/j=5 from by omega) with rfl|rfl|rfl|rfl|rfl|rfl)<;>simp [hbl,hc0,hc1,hc2,hc3,hc4,hc5]) (by intro j;simp [hbl,hfz]) ?_;simp only [markN,TV.cells,set_cells6])
             go_roundw
             case rel=>with_reducible exact ⟨K+1,by omega,by omega,rfl,HNX.out⟩
             case measure=>simp [lenV];omega
            ·obtain rfl:K=f3:=by omega
             have HCL:=hid (HC.out _ N M K hf m1.2 m2.2 m3.2).drew
             obtain ⟨p0,p1,p2',_,q0,q1,q2,g0f,g1f,g2f⟩:=HD.out wr hf.out
             clear hf
             have gd4:¬g1=g0:=fun e=>gd1 e.symm
             have gd5:¬g2=g0:=fun e=>gd2 e.symm
             have gd6:¬g2=g1:=fun e=>gd3 e.symm
             have gl0:g0<wr.heap.size:=World.block_lt_of_cell? wr _ q0
             have gl1:g1<wr.heap.size:=World.block_lt_of_cell? wr _ q1
             have gl2:g2<wr.heap.size:=World.block_lt_of_cell? wr _ q2
             go_wp2_with fail
             go_region
             all_goals
              go_wp2_with fail
              first
               |(go_roundw
                 case rel=>with_reducible exact ⟨Q+1,_,(List.length_set ..).trans hE2,Nat.le_succ_of_le hQ0,Nat.succ_le_of_lt hlt,by go_num,HCL.out⟩
                 case measure=>(simp [intOf];omega))
               |(refine ⟨?_,?measure⟩
                 iterate 60 (apply Exists.intro)
                 repeat apply Exists.intro
                 refine ⟨?rel,rfl⟩
                 case rel=>with_reducible exact ⟨Q+1,_,(List.length_set ..).trans hE2,Nat.le_succ_of_le hQ0,Nat.succ_le_of_lt hlt,by go_num,HCL.out⟩
                 case measure=>(simp [intOf];omega))
     obtain ⟨y,F1,F2,F3,g0,c0,g1,c1,g2,c2,hy,e0,e1,e2',l0,l1,l2,_,hD,hF,_,_,hC,_⟩:=hrel.opens hlt
     have HD:=hid hD
     have HF0:=hid hF
     have HC:=hid (hC rfl)
     obtain ⟨n1,x1⟩:=hF.o1.bounds
     obtain ⟨n2,x2⟩:=hF.o2.bounds
     obtain ⟨n3,x3⟩:=hF.o3.bounds
     unfold maxLen at x1 x2 x3
     have r1:IntKind.i64.wrap (1099511627776+(K:Int))=1099511627776+K:=by rw [IntKind.wrap_i64];omega
     have r2:IntKind.i64.wrap (-2199023255552-(K:Int))=-2199023255552-K:=by rw [IntKind.wrap_i64];omega
     have r3:IntKind.i64.wrap (4398046511104+(K:Int))=4398046511104+K:=by rw [IntKind.wrap_i64];omega
     have i0:(0:Int)<=(K:Int):=by omega
     have i1:(K:Int)<(E'.length:Int):=by omega
     clear hD hF hC hrel hy e0 e1 e2' hexit
     go_wp2_with fail
     clear k2 e3
     go_loopw [7] (fun i wq=>∃ N:Nat,N<=y.sl/\i=.int .i64 N/\Fill wk wq y K F1 F2 F3 N 0 0) (fun i _=>y.sl-(intOf i).toNat)
     case atStart=>exact ⟨0,Nat.zero_le _,rfl,HF0.out⟩
     case round=>
      obtain ⟨N,hN,rfl,hf⟩:=hrel
      have hdesk:=HD.out _ hf.out
      have p0:=hdesk.p0
      have q0:=hdesk.e0
      by_cases hlt1:N<y.sl
      ·obtain ⟨b,v,hA,hc,hfz⟩:=(fill_cell hf).1 (by omega)
       have HNX:=hid (hf.next1 hA (by omega) (by omega) (by omega))
       have hfz1:=hfz N
       rw [hA] at q0
       have j0:(0:Int)<=(N:Int):=by omega
       have j1:(N:Int)<(y.sl:Int):=by omega
       clear hdesk hf hfz
       go_wp2_with fail
       go_roundw
       case rel=>exact ⟨N+1,by omega,by go_num,HNX.out⟩
       case measure=>simp [intOf];omega
      ·obtain rfl:N=y.sl:=by omega
       have HF1:=hid hf
       clear hdesk hf
       go_wp2_with fail
       clear p0 q0
       go_loopw [8] (fun i wq=>∃ N:Nat,N<=y.al/\i=.int .i64 N/\Fill wk wq y K F1 F2 F3 y.sl N 0) (fun i _=>y.al-(intOf i).toNat)
       case atStart=>exact ⟨0,Nat.zero_le _,rfl,HF1.out⟩
       case round=>
        obtain ⟨N,hN,rfl,hf⟩:=hrel
        have hdesk:=HD.out _ hf.out
        have p0:=hdesk.p1
        have q0:=hdesk.e1
        by_cases hlt1:N<y.al
        ·obtain ⟨b,v,hA,hc,hfz⟩:=(fill_cell hf).2.1 (by omega)
         have HNX:=hid (hf.next2 hA (by omega) (by omega) (by omega))
         have hfz1:=hfz N
         rw [hA] at q0
         have j0:(0:Int)<=(N:Int):=by omega
         have j1:(N:Int)<(y.al:Int):=by omega
         clear hdesk hf hfz
         go_wp2_with fail
         go_roundw
         case rel=>exact ⟨N+1,by omega,by go_num,HNX.out⟩
         case measure=>simp [intOf];omega
        ·obtain rfl:N=y.al:=by omega
         have HF2:=hid hf
         clear hdesk hf
         go_wp2_with fail
         clear p0 q0
         go_loopw [9] (fun i wq=>∃ N:Nat,N<=y.kl/\i=.int .i64 N/\Fill wk wq y K F1 F2 F3 y.sl y.al N) (fun i _=>y.kl-(intOf i).toNat)
         case atStart=>exact ⟨0,Nat.zero_le _,rfl,HF2.out⟩
         case round=>
          obtain ⟨N,hN,rfl,hf⟩:=hrel
          have hdesk:=HD.out _ hf.out
          have p0:=hdesk.p2
          have q0:=hdesk.e2
          by_cases hlt1:N<y.kl
          ·obtain ⟨b,v0,v1,v2,v3,v4,v5,hA,hc0,hc1,hc2,hc3,hc4,hc5,hfz⟩:=(fill_cell hf).2.2 (by omega)
           have HNX:=hid (hf.next3 hA (by omega) (by omega) (by omega))
           rw [hA] at q0
           have j0:(0:Int)<=(N:Int):=by omega
           have j1:(N:Int)<(y.kl:Int):=by omega
           clear hdesk hf
           go_wp2_with fail
           go_roundw
           case rel=>exact ⟨N+1,by omega,by go_num,HNX.out⟩
           case measure=>simp [intOf];omega
          ·obtain rfl:N=y.kl:=by omega
           have HN:=hid (HC.out _ hf)
           clear hdesk hf
           go_wp2_with fail
           go_roundw
           case rel=>exact ⟨K+1,by omega,by omega,by go_num,HN.out⟩
           case measure=>simp [intOf];omega
end Go.Proofs.YtpfkhdlnjefikaaGreatDoor
