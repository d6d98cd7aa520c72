/- The law's Book of lists: how it lies in memory. The law's Book: far. The law's Book: gather. -/
import Derived.Test.YtpfkhdlnjefikaaGreatDoorQFrAA
import Derived.Lib.MinMax
import Derived.Deep.CutRange
set_option linter.unusedVariables false
set_option linter.unusedSimpArgs false
namespace Go.Proofs.YtpfkhdlnjefikaaGreatDoor
open Go.RowKit
def sV (y:TV):Value:=.slice y.sa y.sl y.sc
def aV (y:TV):Value:=.slice y.aa y.al y.ac
def kV (y:TV):Value:=.slice y.ka y.kl y.kc
def Marks1 (w:World) (A:Option Addr) (n:Nat) (v:Int):Prop:=∀ b,A=some ⟨b,0,none⟩->∀ i,i<n->w.cell? ⟨b,i,none⟩=some (.int .i64 v)
def markN (v:Int):TV:=⟨0,⟨#[]⟩,v,none,0,0,none,0,0,none,0,0⟩
def Marks6 (w:World) (A:Option Addr) (n:Nat) (v:Int):Prop:=∀ b,A=some ⟨b,0,none⟩->∀ i,i<n->At w b (i*6) (markN v)
theorem OwnB.set {w:World} {ty size:Nat} {A:Option Addr} {len cap:Nat} {F:List Nat} (h:OwnB w ty size A len cap F) (b o:Nat) (v:Value):OwnB (w.setCell ⟨b,o,none⟩ v) ty size A len cap F:=by
 rcases h with h|⟨g,cur,h1,h2,h3,h4,h5,h6⟩
 ·exact .inl h
 ·by_cases hb:b=g
  ·subst hb
   exact .inr ⟨b,_,h1,h2,heap_setCell_same w b o cur ty v h3,h4,h5,by simpa using h6⟩
  ·exact .inr ⟨g,cur,h1,h2,(Below.heap_setCell _ _ _ _ (fun e=>hb e.symm)).trans h3,h4,h5,h6⟩
theorem OwnB.len {w:World} {ty size:Nat} {A:Option Addr} {len cap n:Nat} {F:List Nat} (h:OwnB w ty size A len cap F) (h0:n<=cap):OwnB w ty size A n cap F:=by
 rcases h with ⟨h1,h2,h3⟩|⟨g,cur,h1,h2,h3,h4,h5,h6⟩
 ·exact .inl ⟨by omega,h2,h3⟩
 ·exact .inr ⟨g,cur,h1,h2,h3,h0,h5,h6⟩
theorem OwnB.room {w:World} {ty size:Nat} {A:Option Addr} {len cap:Nat} {F:List Nat} (h:OwnB w ty size A len cap F) (h0:0<cap):∃ b,A=some ⟨b,0,none⟩/\F=[b]/\Room w b ty (cap*size):=by
 rcases h with ⟨h1,h2,h3⟩|⟨g,cur,h1,h2,h3,h4,h5,h6⟩
 ·omega
 ·exact ⟨g,h1,h2,cur,h3,h6⟩
theorem OwnB.bounds {w:World} {ty size:Nat} {A:Option Addr} {len cap:Nat} {F:List Nat} (h:OwnB w ty size A len cap F):len<=cap/\cap<=maxLen:=by
 rcases h with ⟨h1,h2,h3⟩|⟨g,cur,h1,h2,h3,h4,h5,h6⟩
 ·exact ⟨by omega,by rw [h2];exact Nat.zero_le _⟩
 ·exact ⟨h4,h5⟩
theorem OwnB.lt {w:World} {ty size:Nat} {A:Option Addr} {len cap:Nat} {F:List Nat} (h:OwnB w ty size A len cap F):∀ b∈F,b<w.heap.size:=by
 rcases h with ⟨h1,h2,h3⟩|⟨g,cur,h1,h2,h3,h4,h5,h6⟩
 ·simp [h3]
 ·simp only [h2,List.mem_singleton]
  rintro b rfl
  exact (Array.getElem?_eq_some_iff.1 h3).1
theorem Room.own {w:World} {b ty n:Nat} (h:Room w b ty n) {o:Nat} (ho:o<n) (v:Value):(w.setCell ⟨b,o,none⟩ v).cell? ⟨b,o,none⟩=some v:=by
 obtain ⟨u,hu⟩:=h.cell ho
 simp [hu,go_sem]
theorem Marks1.zero (w:World) (A:Option Addr) (v:Int):Marks1 w A 0 v:=fun _ _ i hi=>absurd hi (by omega)
theorem Marks6.zero (w:World) (A:Option Addr) (v:Int):Marks6 w A 0 v:=fun _ _ i hi=>absurd hi (by omega)
theorem Marks1.kept {w w':World} {ty size:Nat} {A:Option Addr} {n len cap:Nat} {F:List Nat} {v:Int} (h:Marks1 w A n v) (ho:OwnB w ty size A len cap F) (hn:n<=len) (hk:∀ b∈F,w'.heap[b]? =w.heap[b]?):Marks1 w' A n v:=by
 intro b hb i hi
 obtain ⟨c,e,hF⟩:=ho.block (by omega)
 rw [hb] at e
 cases e
 exact (cell_of_heap (hk b (by simp [hF]))).trans (h b hb i hi)
theorem Marks6.kept {w w':World} {ty size:Nat} {A:Option Addr} {n len cap:Nat} {F:List Nat} {v:Int} (h:Marks6 w A n v) (ho:OwnB w ty size A len cap F) (hn:n<=len) (hk:∀ b∈F,w'.heap[b]? =w.heap[b]?):Marks6 w' A n v:=by
 intro b hb i hi
 obtain ⟨c,e,hF⟩:=ho.block (by omega)
 rw [hb] at e
 cases e
 exact (h b hb i hi).kept (hk b (by simp [hF]))
theorem Marks1.next {w:World} {b ty m n:Nat} {v:Int} (h:Marks1 w (some ⟨b,0,none⟩) n v) (hr:Room w b ty m) (hn:n<m):Marks1 (w.setCell ⟨b,n,none⟩ (.int .i64 v)) (some ⟨b,0,none⟩) (n+1) v:=by
 intro c hc i hi
 cases hc
 by_cases e:i=n
 ·subst e
  exact hr.own hn _
 ·exact (cell_set_ne (by omega)).trans (h b rfl i (by omega))
theorem Marks6.next {w:World} {b ty m n:Nat} {v:Int} (h:Marks6 w (some ⟨b,0,none⟩) n v) (hr:Room w b ty m) (hn:(n+1)*6<=m):
 Marks6 ((((((w.setCell ⟨b,n*6,none⟩ (.int .i64 0)).setCell ⟨b,n*6+1,none⟩ (.string ⟨#[]⟩)).setCell ⟨b,n*6+2,none⟩ (.int .i64 v)).setCell ⟨b,n*6+3,none⟩ (.slice none 0 0)).setCell ⟨b,n*6+4,none⟩ (.slice none 0 0)).setCell ⟨b,n*6+5,none⟩ (.slice none 0 0)) (some ⟨b,0,none⟩) (n+1) v:=by
 intro c hc i hi
 cases hc
 by_cases e:i=n
 ·subst e
  constructor
  ·exact (cell_set_ne (by omega)).trans ((cell_set_ne (by omega)).trans ((cell_set_ne (by omega)).trans ((cell_set_ne (by omega)).trans ((cell_set_ne (by omega)).trans (hr.own (by omega) _)))))
  ·exact (cell_set_ne (by omega)).trans ((cell_set_ne (by omega)).trans ((cell_set_ne (by omega)).trans ((cell_set_ne (by omega)).trans ((hr.set _ _).own (by omega) _))))
  ·exact (cell_set_ne (by omega)).trans ((cell_set_ne (by omega)).trans ((cell_set_ne (by omega)).trans (((hr.set _ _).set _ _).own (by omega) _)))
  ·exact (cell_set_ne (by omega)).trans ((cell_set_ne (by omega)).trans ((((hr.set _ _).set _ _).set _ _).own (by omega) _))
  ·exact (cell_set_ne (by omega)).trans (((((hr.set _ _).set _ _).set _ _).set _ _).own (by omega) _)
  ·exact ((((((hr.set _ _).set _ _).set _ _).set _ _).set _ _).own (by omega) _)
 ·have h0:=h b rfl i (by omega)
  constructor
  ·iterate 6 (refine (cell_set_ne (by omega)).trans ?_)
   exact h0.c0
  ·iterate 6 (refine (cell_set_ne (by omega)).trans ?_)
   exact h0.c1
  ·iterate 6 (refine (cell_set_ne (by omega)).trans ?_)
   exact h0.c2
  ·iterate 6 (refine (cell_set_ne (by omega)).trans ?_)
   exact h0.c3
  ·iterate 6 (refine (cell_set_ne (by omega)).trans ?_)
   exact h0.c4
  ·iterate 6 (refine (cell_set_ne (by omega)).trans ?_)
   exact h0.c5
theorem Outside.set6 {F:List Nat} {a w:World} (h:Outside F a w) {b:Nat} (hb:b∈F) (n:Nat) (v0 v1 v2 v3 v4 v5:Value):
 Outside F a ((((((w.setCell ⟨b,n*6,none⟩ v0).setCell ⟨b,n*6+1,none⟩ v1).setCell ⟨b,n*6+2,none⟩ v2).setCell ⟨b,n*6+3,none⟩ v3).setCell ⟨b,n*6+4,none⟩ v4).setCell ⟨b,n*6+5,none⟩ v5):=by
 iterate 6 (refine Outside.set ?_ (.inl (by simpa using hb)) _)
 exact h
structure BkEnt (w:World) (i:Nat) (full small:Prop) (y:TV) (F1 F2 F3:List Nat):Prop where
 o1:OwnB w 3 1 y.sa y.sl y.sc F1
 o2:OwnB w 2 1 y.aa y.al y.ac F2
 o3:OwnB w 34 6 y.ka y.kl y.kc F3
 m1:full->Marks1 w y.sa y.sl (1099511627776+i)
 m2:full->Marks1 w y.aa y.al (-2199023255552-i)
 m3:full->Marks6 w y.ka y.kl (4398046511104+i)
 s:small->y.sl<=17592186044416/\y.al<=17592186044416/\y.kl<=2199023255552
theorem BkEnt.kept {w w':World} {i:Nat} {full small:Prop} {y:TV} {F1 F2 F3:List Nat} (h:BkEnt w i full small y F1 F2 F3) (hk:∀ b∈F1++F2++F3,w'.heap[b]? =w.heap[b]?):BkEnt w' i full small y F1 F2 F3:=
 ⟨h.o1.kept (fun b hb=>hk b (by simp [hb])),h.o2.kept (fun b hb=>hk b (by simp [hb])),h.o3.kept (fun b hb=>hk b (by simp [hb])),
  fun hf=>(h.m1 hf).kept h.o1 (Nat.le_refl _) (fun b hb=>hk b (by simp [hb])),fun hf=>(h.m2 hf).kept h.o2 (Nat.le_refl _) (fun b hb=>hk b (by simp [hb])),fun hf=>(h.m3 hf).kept h.o3 (Nat.le_refl _) (fun b hb=>hk b (by simp [hb])),h.s⟩
theorem BkEnt.imp {w:World} {i:Nat} {full small full' small':Prop} {y:TV} {F1 F2 F3:List Nat} (h:BkEnt w i full small y F1 F2 F3) (h1:full'->full) (h2:small'->small):BkEnt w i full' small' y F1 F2 F3:=
 ⟨h.o1,h.o2,h.o3,fun q=>h.m1 (h1 q),fun q=>h.m2 (h1 q),fun q=>h.m3 (h1 q),fun q=>h.s (h2 q)⟩
theorem BkEnt.lt {w:World} {i:Nat} {full small:Prop} {y:TV} {F1 F2 F3:List Nat} (h:BkEnt w i full small y F1 F2 F3):∀ b∈F1++F2++F3,b<w.heap.size:=by
 intro b hb
 rcases List.mem_append.1 hb with hb|hb
 ·rcases List.mem_append.1 hb with hb|hb
  ·exact h.o1.lt b hb
  ·exact h.o2.lt b hb
 ·exact h.o3.lt b hb
def BkEnts (w:World) (P Q:Nat->Prop):Nat->List TV->List Nat->Prop
 |_,[],F=>F=[]
 |i,y::E,F=>∃ F1 F2 F3 F4,F=F1++F2++F3++F4/\BkEnt w i (P i) (Q i) y F1 F2 F3/\BkEnts w P Q (i+1) E F4
theorem BkEnts.kept {w w':World} {P Q:Nat->Prop}:∀ {E:List TV} {i:Nat} {F:List Nat},BkEnts w P Q i E F->(∀ b∈F,w'.heap[b]? =w.heap[b]?)->BkEnts w' P Q i E F
 |[],_,_,h,_=>h
 |y::E,i,F,h,hk=>by
  obtain ⟨F1,F2,F3,F4,rfl,h1,h2⟩:=h
  exact ⟨F1,F2,F3,F4,rfl,h1.kept (fun b hb=>hk b (List.mem_append_left _ hb)),h2.kept (fun b hb=>hk b (List.mem_append_right _ hb))⟩
theorem BkEnts.lt {w:World} {P Q:Nat->Prop}:∀ {E:List TV} {i:Nat} {F:List Nat},BkEnts w P Q i E F->∀ b∈F,b<w.heap.size
 |[],_,F,h,b,hb=>by
  have h:F=[]:=h
  simp [h] at hb
 |y::E,i,F,h,b,hb=>by
  obtain ⟨F1,F2,F3,F4,rfl,h1,h2⟩:=h
  rcases List.mem_append.1 hb with hb|hb
  ·exact h1.lt b hb
  ·exact h2.lt b hb
theorem BkEnts.imp {w:World} {P Q P' Q':Nat->Prop}:∀ {E:List TV} {i:Nat} {F:List Nat},BkEnts w P Q i E F->(∀ j,i<=j->j<i+E.length->(P' j->P j)/\(Q' j->Q j))->BkEnts w P' Q' i E F
 |[],_,_,h,_=>h
 |y::E,i,F,h,hk=>by
  obtain ⟨F1,F2,F3,F4,rfl,h1,h2⟩:=h
  have h0:=hk i (Nat.le_refl _) (by simp)
  exact ⟨F1,F2,F3,F4,rfl,h1.imp h0.1 h0.2,h2.imp (fun j h1 h2=>hk j (by omega) (by simp;omega))⟩
theorem BkEnts.app {w:World} {P Q:Nat->Prop} {L:List TV} {G:List Nat}:∀ {E:List TV} {i:Nat} {F:List Nat},BkEnts w P Q i E F->BkEnts w P Q (i+E.length) L G->BkEnts w P Q i (E++L) (F++G)
 |[],i,F,h,k=>by
  have h:F=[]:=h
  subst h
  simpa using k
 |y::E,i,F,h,k=>by
  obtain ⟨F1,F2,F3,F4,rfl,h1,h2⟩:=h
  refine ⟨F1,F2,F3,F4++G,by simp,h1,h2.app ?_⟩
  rw [show i+1+E.length=i+(y::E).length from by simp;omega]
  exact k
theorem BkEnts.at_ {w:World} {P Q:Nat->Prop}:∀ {E:List TV} {i:Nat} {F:List Nat},BkEnts w P Q i E F->F.Nodup->∀ {j:Nat} {y:TV},E[j]? =some y->∃ F1 F2 F3,BkEnt w (i+j) (P (i+j)) (Q (i+j)) y F1 F2 F3/\(F1++F2++F3).Nodup/\(∀ b∈F1++F2++F3,b∈F)/\
 ∀ (w':World) (y':TV) (P' Q':Nat->Prop),(∀ b∈F,b ∉ F1++F2++F3->w'.heap[b]? =w.heap[b]?)->BkEnt w' (i+j) (P' (i+j)) (Q' (i+j)) y' F1 F2 F3->(∀ q,q≠i+j->(P' q->P q)/\(Q' q->Q q))->BkEnts w' P' Q' i (E.set j y') F
 |[],_,_,_,_,j,y,hj=>by simp at hj
 |y::E,i,F,h,hn,0,z,hj=>by
  obtain ⟨F1,F2,F3,F4,rfl,h1,h2⟩:=h
  simp at hj
  subst hj
  have hn':=List.nodup_append.1 hn
  refine ⟨F1,F2,F3,h1,hn'.1,fun b hb=>List.mem_append_left _ hb,fun w' y' P' Q' hk he hq=>?_⟩
  refine ⟨F1,F2,F3,F4,rfl,he,?_⟩
  refine (h2.kept (fun b hb=>hk b (List.mem_append_right _ hb) (fun hm=>hn'.2.2 b hm b hb rfl))).imp (fun j hj _=>hq j (by omega))
 |y::E,i,F,h,hn,j+1,z,hj=>by
  obtain ⟨F1,F2,F3,F4,rfl,h1,h2⟩:=h
  have hn':=List.nodup_append.1 hn
  obtain ⟨G1,G2,G3,g1,g2,g3,g4⟩:=h2.at_ hn'.2.1 (j:=j) (by simpa using hj)
  rw [show i+1+j=i+(j+1) from by omega] at g1 g4
  refine ⟨G1,G2,G3,g1,g2,fun b hb=>List.mem_append_right _ (g3 b hb),fun w' y' P' Q' hk he hq=>?_⟩
  refine ⟨F1,F2,F3,F4,rfl,?_,g4 w' y' P' Q' (fun b hb hx=>hk b (List.mem_append_right _ hb) hx) he hq⟩
  have h0:=hq i (by omega)
  exact (h1.kept (fun b hb=>hk b (List.mem_append_left _ hb) (fun hm=>hn'.2.2 b hb b (g3 b hm) rfl))).imp h0.1 h0.2
structure Book3 (w:World) (pb:Nat) (v0 v1 v2:Value) (X0 X1 X2:List Value) (s:Int):Prop where
 c0:w.cell? ⟨pb,0,none⟩=some v0
 c1:w.cell? ⟨pb,1,none⟩=some v1
 c2:w.cell? ⟨pb,2,none⟩=some v2
 c3:w.cell? ⟨pb,3,none⟩=some (.int .i64 s)
 f:∀ o,w.frozen? ⟨pb,o,none⟩=false
 r0:w.ownsRow 0 28 1 v0 X0.length X0
 r1:w.ownsRow 0 29 1 v1 X1.length X1
 r2:w.ownsRow 0 32 1 v2 X2.length X2
def BookG (w:World) (pb:Nat) (v0 v1 v2:Value) (E:List TV) (s:Int):Prop:=Book3 w pb v0 v1 v2 (E.map sV) (E.map aV) (E.map kV) s
def deskB (pb:Nat) (v0 v1 v2:Value):List Nat:=pb::(v0.ownBlock.toList++(v1.ownBlock.toList++v2.ownBlock.toList))
theorem ownsRow_kept {w w':World} {base e size n:Nat} {v:Value} {xs:List Value} (h:w.ownsRow base e size v n xs) (hk:∀ g,v.ownBlock=some g->w'.heap[g]? =w.heap[g]?):w'.ownsRow base e size v n xs:=by
 obtain ⟨hl,h|⟨g,cap,cur,rfl,hg,hcur,h4⟩⟩:=h
 ·exact ⟨hl,.inl h⟩
 ·exact ⟨hl,.inr ⟨g,cap,cur,rfl,hg,(hk g rfl).trans hcur,h4⟩⟩
theorem Book3.kept {w w':World} {pb:Nat} {v0 v1 v2:Value} {X0 X1 X2:List Value} {s:Int} (h:Book3 w pb v0 v1 v2 X0 X1 X2 s) (hk:∀ b∈deskB pb v0 v1 v2,w'.heap[b]? =w.heap[b]?):Book3 w' pb v0 v1 v2 X0 X1 X2 s:=by
 have hp:=hk pb (by simp [deskB])
 exact ⟨(cell_of_heap hp).trans h.c0,(cell_of_heap hp).trans h.c1,(cell_of_heap hp).trans h.c2,(cell_of_heap hp).trans h.c3,fun o=>(World.frozen?_of_block (a:=⟨pb,o,none⟩) hp).trans (h.f o),
  ownsRow_kept h.r0 (fun g e=>hk g (by simp [deskB,e])),ownsRow_kept h.r1 (fun g e=>hk g (by simp [deskB,e])),ownsRow_kept h.r2 (fun g e=>hk g (by simp [deskB,e]))⟩
theorem Book3.lt {w:World} {pb:Nat} {v0 v1 v2:Value} {X0 X1 X2:List Value} {s:Int} (h:Book3 w pb v0 v1 v2 X0 X1 X2 s):∀ b∈deskB pb v0 v1 v2,b<w.heap.size:=by
 intro b hb
 simp only [deskB,List.mem_cons,List.mem_append,Option.mem_toList] at hb
 rcases hb with rfl|hb|hb|hb
 ·exact World.block_lt_of_cell? w _ h.c0
 ·exact (h.r0.lt b hb).2
 ·exact (h.r1.lt b hb).2
 ·exact (h.r2.lt b hb).2
theorem Book3.outside {F:List Nat} {w w':World} {pb:Nat} {v0 v1 v2:Value} {X0 X1 X2:List Value} {s:Int} (h:Book3 w pb v0 v1 v2 X0 X1 X2 s) (ho:Outside F w w') (hF:∀ b∈deskB pb v0 v1 v2,b ∉ F):Book3 w' pb v0 v1 v2 X0 X1 X2 s:=
 h.kept (fun b hb=>ho.block b (h.lt b hb) (hF b hb))
theorem Book3.below {w w':World} {pb:Nat} {v0 v1 v2:Value} {X0 X1 X2:List Value} {s:Int} (h:Book3 w pb v0 v1 v2 X0 X1 X2 s) (hb:Below w.heap.size w w'):Book3 w' pb v0 v1 v2 X0 X1 X2 s:=
 h.kept (fun b hb'=>hb.block b (h.lt b hb'))
theorem BookG.kept {w w':World} {pb:Nat} {v0 v1 v2:Value} {E:List TV} {s:Int} (h:BookG w pb v0 v1 v2 E s) (hk:∀ b∈deskB pb v0 v1 v2,w'.heap[b]? =w.heap[b]?):BookG w' pb v0 v1 v2 E s:=Book3.kept h hk
theorem BookG.lt {w:World} {pb:Nat} {v0 v1 v2:Value} {E:List TV} {s:Int} (h:BookG w pb v0 v1 v2 E s):∀ b∈deskB pb v0 v1 v2,b<w.heap.size:=Book3.lt h
theorem BookG.outside {F:List Nat} {w w':World} {pb:Nat} {v0 v1 v2:Value} {E:List TV} {s:Int} (h:BookG w pb v0 v1 v2 E s) (ho:Outside F w w') (hF:∀ b∈deskB pb v0 v1 v2,b ∉ F):BookG w' pb v0 v1 v2 E s:=Book3.outside h ho hF
theorem Book3.size {w:World} {pb:Nat} {v0 v1 v2:Value} {X0 X1 X2:List Value} {s:Int} (h:Book3 w pb v0 v1 v2 X0 X1 X2 s) (hn:(deskB pb v0 v1 v2).Nodup) (s':Int):Book3 (w.setCell ⟨pb,3,none⟩ (.int .i64 s')) pb v0 v1 v2 X0 X1 X2 s':=by
 have hp:∀ g,g∈v0.ownBlock.toList++(v1.ownBlock.toList++v2.ownBlock.toList)->g≠pb:=by
  intro g hg e
  subst e
  exact (List.nodup_cons.1 hn).1 hg
 refine ⟨(cell_set_ne (by omega)).trans h.c0,(cell_set_ne (by omega)).trans h.c1,(cell_set_ne (by omega)).trans h.c2,?_,?_,?_,?_,?_⟩
 ·have:=h.c3
  simp [this,go_sem]
 ·intro o
  have:=h.f o
  simp [this,go_sem]
 ·exact ownsRow_kept h.r0 (fun g e=>Below.heap_setCell _ _ _ _ (hp g (by simp [e])))
 ·exact ownsRow_kept h.r1 (fun g e=>Below.heap_setCell _ _ _ _ (hp g (by simp [e])))
 ·exact ownsRow_kept h.r2 (fun g e=>Below.heap_setCell _ _ _ _ (hp g (by simp [e])))
structure Pushed (w w':World) (pb:Nat) (v0 v1 v2 u0 u1 u2:Value) (X0 X1 X2:List Value) (s:Int):Prop where
 book:Book3 w' pb u0 u1 u2 X0 X1 X2 s
 nodup:(deskB pb u0 u1 u2).Nodup
 new:∀ b∈deskB pb u0 u1 u2,b∈deskB pb v0 v1 v2\/w.heap.size<=b
 out:Outside (deskB pb v0 v1 v2) w w'
theorem Pushed.trans {a b c:World} {pb:Nat} {v0 v1 v2 u0 u1 u2 x0 x1 x2:Value} {X0 X1 X2 Y0 Y1 Y2:List Value} {s s':Int} (h:Pushed a b pb v0 v1 v2 u0 u1 u2 X0 X1 X2 s) (k:Pushed b c pb u0 u1 u2 x0 x1 x2 Y0 Y1 Y2 s'):Pushed a c pb v0 v1 v2 x0 x1 x2 Y0 Y1 Y2 s':=by
 refine ⟨k.book,k.nodup,fun g hg=>?_,⟨k.out.os.trans h.out.os,k.out.tape.trans h.out.tape,k.out.output.trans h.out.output,Nat.le_trans h.out.size k.out.size,fun g hg hm=>?_⟩⟩
 ·rcases k.new g hg with h1|h1
  ·exact h.new g h1
  ·exact .inr (Nat.le_trans h.out.size h1)
 ·refine (k.out.block g (Nat.lt_of_lt_of_le hg h.out.size) (fun h1=>?_)).trans (h.out.block g hg hm)
  rcases h.new g h1 with h2|h2
  ·exact hm h2
  ·omega
theorem Pushed.ahead {a b c:World} {pb:Nat} {v0 v1 v2 u0 u1 u2:Value} {X0 X1 X2:List Value} {s:Int} (hb:Below a.heap.size a b) (k:Pushed b c pb v0 v1 v2 u0 u1 u2 X0 X1 X2 s):Pushed a c pb v0 v1 v2 u0 u1 u2 X0 X1 X2 s:=
 ⟨k.book,k.nodup,fun g hg=>(k.new g hg).imp id (fun h=>Nat.le_trans hb.size h),(Outside.of_below hb).trans k.out⟩
theorem nodup4 {pb:Nat} {v0 v1 v2:Value}:(deskB pb v0 v1 v2).Nodup ↔ (∀ g,(v0.ownBlock=some g\/v1.ownBlock=some g\/v2.ownBlock=some g)->g≠pb)/\(∀ g,v0.ownBlock=some g->v1.ownBlock≠some g/\v2.ownBlock≠some g)/\(∀ g,v1.ownBlock=some g->v2.ownBlock≠some g):=by
 unfold deskB
 cases v0.ownBlock<;>cases v1.ownBlock<;>cases v2.ownBlock<;>simp<;>grind
theorem mem4 {pb b:Nat} {v0 v1 v2:Value}:b∈deskB pb v0 v1 v2 ↔ b=pb\/v0.ownBlock=some b\/v1.ownBlock=some b\/v2.ownBlock=some b:=by
 simp [deskB]
section
variable {w wb w5:World} {pb g cap:Nat} {v0 v1 v2 u:Value} {X0 X1 X2:List Value} {s:Int}
theorem push_facts {v:Value} (h:Book3 w pb v0 v1 v2 X0 X1 X2 s) (hv:v.ownBlock=v0.ownBlock\/v.ownBlock=v1.ownBlock\/v.ownBlock=v2.ownBlock) (hn:(deskB pb v0 v1 v2).Nodup) (hb:Below w.heap.size w wb) (hg:wb.grownBy w5 v.ownBlock):
 (∀ b,b<w.heap.size->v.ownBlock≠some b->w5.heap[b]? =w.heap[b]?)/\(∀ o,w5.cell? ⟨pb,o,none⟩=w.cell? ⟨pb,o,none⟩)/\(∀ o,w5.frozen? ⟨pb,o,none⟩=false)/\pb<w.heap.size/\w.heap.size<=w5.heap.size:=by
 have hk:∀ b,b<w.heap.size->v.ownBlock≠some b->w5.heap[b]? =w.heap[b]? :=fun b h1 h2=>(hg.block b (Nat.lt_of_lt_of_le h1 hb.size) (fun e=>h2 e.symm)).trans (hb.block b h1)
 have hp:pb<w.heap.size:=h.lt pb (by simp [deskB])
 have hne:v.ownBlock≠some pb:=by
  intro e
  refine (nodup4.1 hn).1 pb ?_ rfl
  rcases hv with h|h|h
  ·exact .inl (h▸e)
  ·exact .inr (.inl (h▸e))
  ·exact .inr (.inr (h▸e))
 exact ⟨hk,fun o=>cell_of_heap (hk pb hp hne),fun o=>(World.frozen?_of_block (a:=⟨pb,o,none⟩) (hk pb hp hne)).trans (h.f o),hp,Nat.le_trans hb.size hg.size⟩
theorem Book3.push0 {m:Nat} (h:Book3 w pb v0 v1 v2 X0 X1 X2 s) (hl:X0.length=m) (hn:(deskB pb v0 v1 v2).Nodup) (hb:Below w.heap.size w wb) (hown:w5.ownsRow 0 28 1 (.slice (some ⟨g,0,none⟩) (m+1) cap) (m+1) (X0++[u])) (hg:wb.grownBy w5 v0.ownBlock) (hat:v0.ownBlock=some g\/g=wb.heap.size):
 Pushed w (w5.setCell ⟨pb,0,none⟩ (.slice (some ⟨g,0,none⟩) (m+1) cap)) pb v0 v1 v2 (.slice (some ⟨g,0,none⟩) (m+1) cap) v1 v2 (X0++[u]) X1 X2 s:=by
 obtain ⟨hk,hc,hf,hp,hz⟩:=push_facts h (.inl rfl) hn hb hg
 obtain ⟨n1,n2,n3⟩:=nodup4.1 hn
 have hbz:=hb.size
 have hgp:g≠pb:=by
  rcases hat with hb|e
  ·exact n1 g (.inl hb)
  ·omega
 have e0:(Value.slice (some ⟨g,0,none⟩) (m+1) cap).ownBlock=some g:=rfl
 have hs:(w5.setCell ⟨pb,0,none⟩ (.slice (some ⟨g,0,none⟩) (m+1) cap)).heap.size=w5.heap.size:=by simp [World.setCell]
 have hset:∀ b,b≠pb->(w5.setCell ⟨pb,0,none⟩ (.slice (some ⟨g,0,none⟩) (m+1) cap)).heap[b]? =w5.heap[b]? :=fun b hb=>Below.heap_setCell _ _ _ _ hb
 have g1:∀ b,v1.ownBlock=some b->b≠g:=fun b hb e=>by
  subst e
  rcases hat with h'|h'
  ·exact (n2 _ h').1 hb
  ·have:=(h.r1.lt b hb).2;omega
 have k1:∀ b,v1.ownBlock=some b->(w5.setCell ⟨pb,0,none⟩ (.slice (some ⟨g,0,none⟩) (m+1) cap)).heap[b]? =w.heap[b]? :=fun b hb=>(hset b (n1 b (.inr (.inl hb)))).trans (hk b (h.r1.lt b hb).2 (fun e=>(n2 _ e).1 hb))
 have g2:∀ b,v2.ownBlock=some b->b≠g:=fun b hb e=>by
  subst e
  rcases hat with h'|h'
  ·exact (n2 _ h').2 hb
  ·have:=(h.r2.lt b hb).2;omega
 have k2:∀ b,v2.ownBlock=some b->(w5.setCell ⟨pb,0,none⟩ (.slice (some ⟨g,0,none⟩) (m+1) cap)).heap[b]? =w.heap[b]? :=fun b hb=>(hset b (n1 b (.inr (.inr hb)))).trans (hk b (h.r2.lt b hb).2 (fun e=>(n2 _ e).2 hb))
 refine ⟨⟨?_,?_,?_,?_,?_,?_,?_,?_⟩,?_,?_,?_⟩
 ·have:=(hc 0).trans h.c0
  simp [this,go_sem]
 ·exact (cell_set_ne (by omega)).trans ((hc 1).trans h.c1)
 ·exact (cell_set_ne (by omega)).trans ((hc 2).trans h.c2)
 ·exact (cell_set_ne (by omega)).trans ((hc 3).trans h.c3)
 ·intro o;have:=hf o;simp [this,go_sem]
 ·rw [List.length_append,hl]
  exact ownsRow_kept hown (fun b e=>by cases e;exact hset _ hgp)
 ·exact ownsRow_kept h.r1 k1
 ·exact ownsRow_kept h.r2 k2
 ·refine nodup4.2 ⟨fun b hb=>?_,fun b hb=>?_,fun b hb=>?_⟩
  ·rcases hb with hb|hb|hb
   ·rw [e0] at hb;cases hb;exact hgp
   ·exact n1 b (.inr (.inl hb))
   ·exact n1 b (.inr (.inr hb))
  ·refine ⟨?_,?_⟩
   ·rw [e0] at hb
    cases hb
    exact fun e=>g1 _ e rfl
   ·rw [e0] at hb
    cases hb
    exact fun e=>g2 _ e rfl
  ·exact fun e=>n3 _ hb e
 ·intro b hb
  rw [mem4,e0] at hb
  rw [mem4]
  rcases hb with hb|hb|hb|hb
  ·exact .inl (.inl hb)
  ·cases hb
   rcases hat with h'|h'
   ·exact .inl (.inr (.inl h'))
   ·exact .inr (by omega)
  ·exact .inl (.inr (.inr (.inl hb)))
  ·exact .inl (.inr (.inr (.inr hb)))
 ·refine ⟨hg.os.trans hb.os,hg.tape.trans hb.tape,hg.output.trans hb.output,by rw [hs];exact hz,fun b hb hm=>?_⟩
  rw [mem4] at hm
  exact (hset b (fun e=>hm (.inl e))).trans (hk b hb (fun e=>hm (.inr (.inl e))))
theorem Book3.push1 {m:Nat} (h:Book3 w pb v0 v1 v2 X0 X1 X2 s) (hl:X1.length=m) (hn:(deskB pb v0 v1 v2).Nodup) (hb:Below w.heap.size w wb) (hown:w5.ownsRow 0 29 1 (.slice (some ⟨g,0,none⟩) (m+1) cap) (m+1) (X1++[u])) (hg:wb.grownBy w5 v1.ownBlock) (hat:v1.ownBlock=some g\/g=wb.heap.size):
 Pushed w (w5.setCell ⟨pb,1,none⟩ (.slice (some ⟨g,0,none⟩) (m+1) cap)) pb v0 v1 v2 v0 (.slice (some ⟨g,0,none⟩) (m+1) cap) v2 X0 (X1++[u]) X2 s:=by
 obtain ⟨hk,hc,hf,hp,hz⟩:=push_facts h (.inr (.inl rfl)) hn hb hg
 obtain ⟨n1,n2,n3⟩:=nodup4.1 hn
 have hbz:=hb.size
 have hgp:g≠pb:=by
  rcases hat with hb|e
  ·exact n1 g (.inr (.inl hb))
  ·omega
 have e0:(Value.slice (some ⟨g,0,none⟩) (m+1) cap).ownBlock=some g:=rfl
 have hs:(w5.setCell ⟨pb,1,none⟩ (.slice (some ⟨g,0,none⟩) (m+1) cap)).heap.size=w5.heap.size:=by simp [World.setCell]
 have hset:∀ b,b≠pb->(w5.setCell ⟨pb,1,none⟩ (.slice (some ⟨g,0,none⟩) (m+1) cap)).heap[b]? =w5.heap[b]? :=fun b hb=>Below.heap_setCell _ _ _ _ hb
 have g0:∀ b,v0.ownBlock=some b->b≠g:=fun b hb e=>by
  subst e
  rcases hat with h'|h'
  ·exact (n2 _ hb).1 h'
  ·have:=(h.r0.lt b hb).2;omega
 have k0:∀ b,v0.ownBlock=some b->(w5.setCell ⟨pb,1,none⟩ (.slice (some ⟨g,0,none⟩) (m+1) cap)).heap[b]? =w.heap[b]? :=fun b hb=>(hset b (n1 b (.inl hb))).trans (hk b (h.r0.lt b hb).2 (fun e=>(n2 _ hb).1 e))
 have g2:∀ b,v2.ownBlock=some b->b≠g:=fun b hb e=>by
  subst e
  rcases hat with h'|h'
  ·exact n3 _ h' hb
  ·have:=(h.r2.lt b hb).2;omega
 have k2:∀ b,v2.ownBlock=some b->(w5.setCell ⟨pb,1,none⟩ (.slice (some ⟨g,0,none⟩) (m+1) cap)).heap[b]? =w.heap[b]? :=fun b hb=>(hset b (n1 b (.inr (.inr hb)))).trans (hk b (h.r2.lt b hb).2 (fun e=>n3 _ e hb))
 refine ⟨⟨?_,?_,?_,?_,?_,?_,?_,?_⟩,?_,?_,?_⟩
 ·exact (cell_set_ne (by omega)).trans ((hc 0).trans h.c0)
 ·have:=(hc 1).trans h.c1
  simp [this,go_sem]
 ·exact (cell_set_ne (by omega)).trans ((hc 2).trans h.c2)
 ·exact (cell_set_ne (by omega)).trans ((hc 3).trans h.c3)
 ·intro o;have:=hf o;simp [this,go_sem]
 ·exact ownsRow_kept h.r0 k0
 ·rw [List.length_append,hl]
  exact ownsRow_kept hown (fun b e=>by cases e;exact hset _ hgp)
 ·exact ownsRow_kept h.r2 k2
 ·refine nodup4.2 ⟨fun b hb=>?_,fun b hb=>?_,fun b hb=>?_⟩
  ·rcases hb with hb|hb|hb
   ·exact n1 b (.inl hb)
   ·rw [e0] at hb;cases hb;exact hgp
   ·exact n1 b (.inr (.inr hb))
  ·refine ⟨?_,?_⟩
   ·rw [e0]
    intro e
    cases e
    exact g0 _ hb rfl
   ·exact fun e=>(n2 _ hb).2 e
  ·rw [e0] at hb
   cases hb
   exact fun e=>g2 _ e rfl
 ·intro b hb
  rw [mem4,e0] at hb
  rw [mem4]
  rcases hb with hb|hb|hb|hb
  ·exact .inl (.inl hb)
  ·exact .inl (.inr (.inl hb))
  ·cases hb
   rcases hat with h'|h'
   ·exact .inl (.inr (.inr (.inl h')))
   ·exact .inr (by omega)
  ·exact .inl (.inr (.inr (.inr hb)))
 ·refine ⟨hg.os.trans hb.os,hg.tape.trans hb.tape,hg.output.trans hb.output,by rw [hs];exact hz,fun b hb hm=>?_⟩
  rw [mem4] at hm
  exact (hset b (fun e=>hm (.inl e))).trans (hk b hb (fun e=>hm (.inr (.inr (.inl e)))))
theorem Book3.push2 {m:Nat} (h:Book3 w pb v0 v1 v2 X0 X1 X2 s) (hl:X2.length=m) (hn:(deskB pb v0 v1 v2).Nodup) (hb:Below w.heap.size w wb) (hown:w5.ownsRow 0 32 1 (.slice (some ⟨g,0,none⟩) (m+1) cap) (m+1) (X2++[u])) (hg:wb.grownBy w5 v2.ownBlock) (hat:v2.ownBlock=some g\/g=wb.heap.size):
 Pushed w (w5.setCell ⟨pb,2,none⟩ (.slice (some ⟨g,0,none⟩) (m+1) cap)) pb v0 v1 v2 v0 v1 (.slice (some ⟨g,0,none⟩) (m+1) cap) X0 X1 (X2++[u]) s:=by
 obtain ⟨hk,hc,hf,hp,hz⟩:=push_facts h (.inr (.inr rfl)) hn hb hg
 obtain ⟨n1,n2,n3⟩:=nodup4.1 hn
 have hbz:=hb.size
 have hgp:g≠pb:=by
  rcases hat with hb|e
  ·exact n1 g (.inr (.inr hb))
  ·omega
 have e0:(Value.slice (some ⟨g,0,none⟩) (m+1) cap).ownBlock=some g:=rfl
 have hs:(w5.setCell ⟨pb,2,none⟩ (.slice (some ⟨g,0,none⟩) (m+1) cap)).heap.size=w5.heap.size:=by simp [World.setCell]
 have hset:∀ b,b≠pb->(w5.setCell ⟨pb,2,none⟩ (.slice (some ⟨g,0,none⟩) (m+1) cap)).heap[b]? =w5.heap[b]? :=fun b hb=>Below.heap_setCell _ _ _ _ hb
 have g0:∀ b,v0.ownBlock=some b->b≠g:=fun b hb e=>by
  subst e
  rcases hat with h'|h'
  ·exact (n2 _ hb).2 h'
  ·have:=(h.r0.lt b hb).2;omega
 have k0:∀ b,v0.ownBlock=some b->(w5.setCell ⟨pb,2,none⟩ (.slice (some ⟨g,0,none⟩) (m+1) cap)).heap[b]? =w.heap[b]? :=fun b hb=>(hset b (n1 b (.inl hb))).trans (hk b (h.r0.lt b hb).2 (fun e=>(n2 _ hb).2 e))
 have g1:∀ b,v1.ownBlock=some b->b≠g:=fun b hb e=>by
  subst e
  rcases hat with h'|h'
  ·exact n3 _ hb h'
  ·have:=(h.r1.lt b hb).2;omega
 have k1:∀ b,v1.ownBlock=some b->(w5.setCell ⟨pb,2,none⟩ (.slice (some ⟨g,0,none⟩) (m+1) cap)).heap[b]? =w.heap[b]? :=fun b hb=>(hset b (n1 b (.inr (.inl hb)))).trans (hk b (h.r1.lt b hb).2 (fun e=>n3 _ hb e))
 refine ⟨⟨?_,?_,?_,?_,?_,?_,?_,?_⟩,?_,?_,?_⟩
 ·exact (cell_set_ne (by omega)).trans ((hc 0).trans h.c0)
 ·exact (cell_set_ne (by omega)).trans ((hc 1).trans h.c1)
 ·have:=(hc 2).trans h.c2
  simp [this,go_sem]
 ·exact (cell_set_ne (by omega)).trans ((hc 3).trans h.c3)
 ·intro o;have:=hf o;simp [this,go_sem]
 ·exact ownsRow_kept h.r0 k0
 ·exact ownsRow_kept h.r1 k1
 ·rw [List.length_append,hl]
  exact ownsRow_kept hown (fun b e=>by cases e;exact hset _ hgp)
 ·refine nodup4.2 ⟨fun b hb=>?_,fun b hb=>?_,fun b hb=>?_⟩
  ·rcases hb with hb|hb|hb
   ·exact n1 b (.inl hb)
   ·exact n1 b (.inr (.inl hb))
   ·rw [e0] at hb;cases hb;exact hgp
  ·refine ⟨?_,?_⟩
   ·exact fun e=>(n2 _ hb).1 e
   ·rw [e0]
    intro e
    cases e
    exact g0 _ hb rfl
  ·rw [e0]
   intro e
   cases e
   exact g1 _ hb rfl
 ·intro b hb
  rw [mem4,e0] at hb
  rw [mem4]
  rcases hb with hb|hb|hb|hb
  ·exact .inl (.inl hb)
  ·exact .inl (.inr (.inl hb))
  ·exact .inl (.inr (.inr (.inl hb)))
  ·cases hb
   rcases hat with h'|h'
   ·exact .inl (.inr (.inr (.inr h')))
   ·exact .inr (by omega)
 ·refine ⟨hg.os.trans hb.os,hg.tape.trans hb.tape,hg.output.trans hb.output,by rw [hs];exact hz,fun b hb hm=>?_⟩
  rw [mem4] at hm
  exact (hset b (fun e=>hm (.inl e))).trans (hk b hb (fun e=>hm (.inr (.inr (.inr e)))))
end
structure Desk (w:World) (pb g0 g1 g2 n c0 c1 c2 k:Nat) (s:Int) (y:TV):Prop where
 p0:w.cell? ⟨pb,0,none⟩=some (.slice (some ⟨g0,0,none⟩) n c0)
 p1:w.cell? ⟨pb,1,none⟩=some (.slice (some ⟨g1,0,none⟩) n c1)
 p2:w.cell? ⟨pb,2,none⟩=some (.slice (some ⟨g2,0,none⟩) n c2)
 p3:w.cell? ⟨pb,3,none⟩=some (.int .i64 s)
 e0:w.cell? ⟨g0,k,none⟩=some (.slice y.sa y.sl y.sc)
 e1:w.cell? ⟨g1,k,none⟩=some (.slice y.aa y.al y.ac)
 e2:w.cell? ⟨g2,k,none⟩=some (.slice y.ka y.kl y.kc)
 f0:w.frozen? ⟨g0,k,none⟩=false
 f1:w.frozen? ⟨g1,k,none⟩=false
 f2:w.frozen? ⟨g2,k,none⟩=false
theorem row_slot {w:World} {ty:Nat} {v:Value} {E:List TV} {f:TV->Value} {k:Nat} {y:TV} (h:w.ownsRow 0 ty 1 v E.length (E.map f)) (hk:E[k]? =some y):∃ g c,v=.slice (some ⟨g,0,none⟩) E.length c/\E.length<=c/\w.cell? ⟨g,k,none⟩=some (f y)/\w.frozen? ⟨g,k,none⟩=false:=by
 have hlt:=(List.getElem?_eq_some_iff.1 hk).1
 have h':=h
 obtain ⟨_,⟨_,e⟩|⟨g,cap,cur,rfl,hg,hcur,h4,_⟩⟩:=h
 ·omega
 ·exact ⟨g,cap,rfl,h4,by rw [h'.cellAt k (by omega),List.getElem?_map,hk];rfl,h'.frozenAt k⟩
theorem BookG.desk {w:World} {pb:Nat} {v0 v1 v2:Value} {E:List TV} {s:Int} {k:Nat} {y:TV} (h:BookG w pb v0 v1 v2 E s) (hk:E[k]? =some y):
 ∃ g0 c0 g1 c1 g2 c2,v0=.slice (some ⟨g0,0,none⟩) E.length c0/\v1=.slice (some ⟨g1,0,none⟩) E.length c1/\v2=.slice (some ⟨g2,0,none⟩) E.length c2/\E.length<=c0/\E.length<=c1/\E.length<=c2/\Desk w pb g0 g1 g2 E.length c0 c1 c2 k s y:=by
 obtain ⟨g0,c0,e0,l0,a0,b0⟩:=row_slot (f:=sV) (by have:=h.r0;rwa [List.length_map] at this) hk
 obtain ⟨g1,c1,e1,l1,a1,b1⟩:=row_slot (f:=aV) (by have:=h.r1;rwa [List.length_map] at this) hk
 obtain ⟨g2,c2,e2,l2,a2,b2⟩:=row_slot (f:=kV) (by have:=h.r2;rwa [List.length_map] at this) hk
 exact ⟨g0,c0,g1,c1,g2,c2,e0,e1,e2,l0,l1,l2,h.c0.trans (congrArg some e0),h.c1.trans (congrArg some e1),h.c2.trans (congrArg some e2),h.c3,a0,a1,a2,b0,b1,b2⟩
theorem Desk.kept {w w':World} {pb g0 g1 g2 n c0 c1 c2 k:Nat} {s:Int} {y:TV} (h:Desk w pb g0 g1 g2 n c0 c1 c2 k s y) (hk:∀ b,b=pb\/b=g0\/b=g1\/b=g2->w'.heap[b]? =w.heap[b]?):Desk w' pb g0 g1 g2 n c0 c1 c2 k s y:=by
 have k0:=hk pb (.inl rfl)
 have k1:=hk g0 (.inr (.inl rfl))
 have k2:=hk g1 (.inr (.inr (.inl rfl)))
 have k3:=hk g2 (.inr (.inr (.inr rfl)))
 exact ⟨(cell_of_heap k0).trans h.p0,(cell_of_heap k0).trans h.p1,(cell_of_heap k0).trans h.p2,(cell_of_heap k0).trans h.p3,(cell_of_heap k1).trans h.e0,(cell_of_heap k2).trans h.e1,(cell_of_heap k3).trans h.e2,
  (World.frozen?_of_block (a:=⟨g0,k,none⟩) k1).trans h.f0,(World.frozen?_of_block (a:=⟨g1,k,none⟩) k2).trans h.f1,(World.frozen?_of_block (a:=⟨g2,k,none⟩) k3).trans h.f2⟩
theorem BookG.put {w:World} {pb g0 g1 g2 c0 c1 c2:Nat} {E:List TV} {s:Int} (h:BookG w pb (.slice (some ⟨g0,0,none⟩) E.length c0) (.slice (some ⟨g1,0,none⟩) E.length c1) (.slice (some ⟨g2,0,none⟩) E.length c2) E s) (hn:(deskB pb (.slice (some ⟨g0,0,none⟩) E.length c0) (.slice (some ⟨g1,0,none⟩) E.length c1) (.slice (some ⟨g2,0,none⟩) E.length c2)).Nodup) (k:Nat) (hk:k<E.length) (y':TV):
 BookG (((w.setCell ⟨g0,k,none⟩ (sV y')).setCell ⟨g1,k,none⟩ (aV y')).setCell ⟨g2,k,none⟩ (kV y')) pb (.slice (some ⟨g0,0,none⟩) (E.set k y').length c0) (.slice (some ⟨g1,0,none⟩) (E.set k y').length c1) (.slice (some ⟨g2,0,none⟩) (E.set k y').length c2) (E.set k y') s:=by
 have hn':pb≠g0/\pb≠g1/\pb≠g2/\g0≠g1/\g0≠g2/\g1≠g2:=by
  simp [deskB,Value.ownBlock] at hn
  omega
 obtain ⟨n1,n2,n3,n4,n5,n6⟩:=hn'
 rw [List.length_set]
 have hs:∀ f:TV->Value,(E.set k y').map f=(E.map f).set k (f y'):=fun f=>by rw [List.map_set]
 have hp:(((w.setCell ⟨g0,k,none⟩ (sV y')).setCell ⟨g1,k,none⟩ (aV y')).setCell ⟨g2,k,none⟩ (kV y')).heap[pb]? =w.heap[pb]? :=
  (Below.heap_setCell _ _ _ _ (by exact n3)).trans ((Below.heap_setCell _ _ _ _ (by exact n2)).trans (Below.heap_setCell _ _ _ _ (by exact n1)))
 refine ⟨(cell_of_heap hp).trans h.c0,(cell_of_heap hp).trans h.c1,(cell_of_heap hp).trans h.c2,(cell_of_heap hp).trans h.c3,fun o=>(World.frozen?_of_block (a:=⟨pb,o,none⟩) hp).trans (h.f o),?_,?_,?_⟩
 ·rw [List.length_map,List.length_set,hs]
  have h0:w.ownsRow 0 28 1 (.slice (some ⟨g0,0,none⟩) E.length c0) E.length (E.map sV):=by have:=h.r0;rwa [List.length_map] at this
  have h1:=(h0.stored k (sV y')).1
  have h2:=ownsRow_kept (w':=(w.setCell ⟨g0,k,none⟩ (sV y')).setCell ⟨g1,k,none⟩ (aV y')) h1 (fun g e=>by cases e;exact Below.heap_setCell _ _ _ _ (by exact n4))
  exact ownsRow_kept h2 (fun g e=>by cases e;exact Below.heap_setCell _ _ _ _ (by exact n5))
 ·rw [List.length_map,List.length_set,hs]
  have h0:w.ownsRow 0 29 1 (.slice (some ⟨g1,0,none⟩) E.length c1) E.length (E.map aV):=by have:=h.r1;rwa [List.length_map] at this
  have h1:=ownsRow_kept (w':=w.setCell ⟨g0,k,none⟩ (sV y')) h0 (fun g e=>by cases e;exact Below.heap_setCell _ _ _ _ (by exact n4.symm))
  have h2:=(h1.stored k (aV y')).1
  exact ownsRow_kept h2 (fun g e=>by cases e;exact Below.heap_setCell _ _ _ _ (by exact n6))
 ·rw [List.length_map,List.length_set,hs]
  have h0:w.ownsRow 0 32 1 (.slice (some ⟨g2,0,none⟩) E.length c2) E.length (E.map kV):=by have:=h.r2;rwa [List.length_map] at this
  have h1:=ownsRow_kept (w':=(w.setCell ⟨g0,k,none⟩ (sV y')).setCell ⟨g1,k,none⟩ (aV y')) h0 (fun g e=>by cases e;exact (Below.heap_setCell _ _ _ _ (by exact n6.symm)).trans (Below.heap_setCell _ _ _ _ (by exact n5.symm)))
  exact (h1.stored k (kV y')).1
def farN (n all:Nat):Nat:=min all (n+70000)
def FarPost (n all:Nat) (w:World) (e:Ending) (w':World):Prop:=e=.returned (.int .i64 (farN n all))/\w'=w
theorem far_calls (n all:Nat) (w:World) (hn:n<=70368744177664) (ha:all<=maxLen):Calls Tryz.prog 38 #[.int .i64 n,.int .i64 all] w (FarPost n all w):=by
 unfold maxLen at ha
 obtain ⟨m,hm⟩:∃ m:Nat,m=n+70000:=⟨_,rfl⟩
 have h1:IntKind.i64.wrap ((n:Int)+70000)=m:=by rw [IntKind.wrap_i64];omega
 have HP:=hid (show FarPost n all w (.returned (.int .i64 (min all m:Nat))) w from ⟨by rw [farN,hm],rfl⟩)
 generalize FarPost n all w=Q at HP ⊢
 clear hm hn ha
 go_enter Tryz.func38,Tryz.ntmps38
 go_wp2_with fail
 have e:(min (all:Int) (m:Int))=((min all m:Nat):Int):=by omega
 show Q (.returned (.int .i64 (min (all:Int) (m:Int)))) w
 rw [e]
 exact HP.out
theorem Book3.sized {w:World} {pb:Nat} {v0 v1 v2:Value} {X0 X1 X2:List Value} {s:Int} (h:Book3 w pb v0 v1 v2 X0 X1 X2 s) (hn:(deskB pb v0 v1 v2).Nodup) (s':Int):Pushed w (w.setCell ⟨pb,3,none⟩ (.int .i64 s')) pb v0 v1 v2 v0 v1 v2 X0 X1 X2 s':=
 ⟨h.size hn s',hn,fun _ hb=>.inl hb,(Outside.refl _ _).set (.inl (by simp [deskB])) _⟩
theorem Book3.drewN {w:World} {pb:Nat} {v0 v1 v2:Value} {X0 X1 X2:List Value} {s:Int} (h:Book3 w pb v0 v1 v2 X0 X1 X2 s) (n:Nat):Book3 (w.drewN n) pb v0 v1 v2 X0 X1 X2 s:=⟨h.c0,h.c1,h.c2,h.c3,h.f,h.r0,h.r1,h.r2⟩
theorem OwnL.uncons {w:World} {l:List T} {A:Option Addr} {K:Nat} {F:List Nat} (hK:K<l.length) (h:OwnL w (l.drop K) A K F):∃ F1 F2 b y,F=F1++F2/\A=some ⟨b,0,none⟩/\At w b (K*6) y/\Own w l[K] y F1/\OwnL w (l.drop (K+1)) A (K+1) F2:=by
 rw [List.drop_eq_getElem_cons hK] at h
 obtain ⟨F1,F2,e,⟨b,y,hb,hat,ho⟩,hr⟩:=h
 exact ⟨F1,F2,b,y,e,hb,hat,ho,hr⟩
def AllF:Nat->Prop:=fun _=>False
def AllT:Nat->Prop:=fun _=>True
theorem BkEnts.shift {w:World}:∀ {L:List TV} {i j:Nat} {F:List Nat},BkEnts w AllF AllT i L F->BkEnts w AllF AllT j L F
 |[],_,_,_,h=>h
 |y::L,i,j,F,h=>by
  obtain ⟨F1,F2,F3,F4,e,h1,h2⟩:=h
  exact ⟨F1,F2,F3,F4,e,⟨h1.o1,h1.o2,h1.o3,fun h=>h.elim,fun h=>h.elim,fun h=>h.elim,h1.s⟩,h2.shift⟩
theorem Pushed.drew {w w':World} {pb:Nat} {v0 v1 v2 u0 u1 u2:Value} {X0 X1 X2:List Value} {s:Int} (h:Pushed w w' pb v0 v1 v2 u0 u1 u2 X0 X1 X2 s):Pushed w w'.drew pb v0 v1 v2 u0 u1 u2 X0 X1 X2 s:=
 ⟨h.book.drewN 1,h.nodup,h.new,⟨h.out.os,h.out.tape,h.out.output,h.out.size,h.out.block⟩⟩
def GatherPost (t:T) (F:List Nat) (w:World) (pb:Nat) (v0 v1 v2:Value) (E:List TV) (s:Int) (e:Ending) (w':World):Prop:=
 e=.returned (.tuple #[])/\∃ u0 u1 u2 L s',Pushed w w' pb v0 v1 v2 u0 u1 u2 ((E++L).map sV) ((E++L).map aV) ((E++L).map kV) s'/\BkEnts w AllF AllT 0 L F/\L.length=t.nodes/\s+1200*L.length<=s'/\s'<=s+L.length*562949953421312
def GatherAll (t:T):Prop:=∀ (x:TV) (F:List Nat) (w:World) (pb:Nat) (v0 v1 v2:Value) (E:List TV) (s:Int),Own w t x F->BookG w pb v0 v1 v2 E s->(deskB pb v0 v1 v2).Nodup->(∀ b∈F,b ∉ deskB pb v0 v1 v2)->(∀ b∈F,b<w.heap.size)->
 0<=s->s+t.nodes*562949953421312<=4611686018427387904->E.length+t.nodes<=1099511627776->
 Calls Tryz.prog 37 #[.pointer (some ⟨pb,0,none⟩),x.val] w (GatherPost t F w pb v0 v1 v2 E s)
structure GRel (w W0 wr:World) (pb:Nat) (v0 v1 v2 u0 u1 u2:Value) (E:List TV) (x:TV) (l:List T) (K:Nat) (L:List TV) (s s':Int) (F4 F' Fr:List Nat):Prop where
 push:Pushed W0 wr pb v0 v1 v2 u0 u1 u2 ((E++x::L).map sV) ((E++x::L).map aV) ((E++x::L).map kV) s'
 split:F4=F'++Fr
 ents:BkEnts w AllF AllT 0 L F'
 rest:OwnL w (l.drop K) x.ka K Fr
 len:L.length=T.nodesL (l.take K)
 lo:s+1200*(1+L.length)<=s'
 hi:s'<=s+(1+L.length)*562949953421312
theorem BkEnts.keptOut {w w':World} {P Q:Nat->Prop} {G:List Nat} {L:List TV} {i:Nat} {F:List Nat} (h:BkEnts w P Q i L F) (ho:Outside G w w') (hF:∀ b∈F,b ∉ G):BkEnts w' P Q i L F:=
 h.kept (fun b hb=>ho.block b (h.lt b hb) (hF b hb))
theorem GRel.step {w W0 wr w2:World} {pb:Nat} {v0 v1 v2 u0 u1 u2 x0 x1 x2:Value} {E:List TV} {x:TV} {l:List T} {K:Nat} {L M:List TV} {s s' s2:Int} {F4 F' Fr F1 F2:List Nat} {u:T} (h:GRel w W0 wr pb v0 v1 v2 u0 u1 u2 E x l K L s s' F4 F' Fr)
 (hu:l[K]? =some u) (e:Fr=F1++F2) (hr:OwnL w (l.drop (K+1)) x.ka (K+1) F2) (hp:Pushed wr w2 pb u0 u1 u2 x0 x1 x2 (((E++x::L)++M).map sV) (((E++x::L)++M).map aV) (((E++x::L)++M).map kV) s2)
 (he:BkEnts w AllF AllT 0 M F1) (hl:M.length=u.nodes) (h1:s'+1200*M.length<=s2) (h2:s2<=s'+M.length*562949953421312):
 GRel w W0 w2 pb v0 v1 v2 x0 x1 x2 E x l (K+1) (L++M) s s2 F4 (F'++F1) F2:=by
 have a1:=h.lo
 have a2:=h.hi
 refine ⟨?_,by rw [h.split,e,List.append_assoc],h.ents.app he.shift,hr,?_,?_,?_⟩
 ·have:=h.push.trans hp
  simpa using this
 ·rw [List.length_append,h.len,hl,nodesL_take hu]
 ·rw [List.length_append];omega
 ·rw [List.length_append];omega
theorem info_ints:(Tryz.prog.info? 28).map (fun i=>(i.zero,i.size,i.bytes))=some (some (.slice none 0 0),1,24):=by kernel_rfl
theorem info_int64s:(Tryz.prog.info? 29).map (fun i=>(i.zero,i.size,i.bytes))=some (some (.slice none 0 0),1,24):=by kernel_rfl
theorem info_terms:(Tryz.prog.info? 32).map (fun i=>(i.zero,i.size,i.bytes))=some (some (.slice none 0 0),1,24):=by kernel_rfl
theorem Pushed.box {w w':World} {pb bx:Nat} {v0 v1 v2 u0 u1 u2:Value} {X0 X1 X2:List Value} {s:Int} {x:TV} (h:Pushed w w' pb v0 v1 v2 u0 u1 u2 X0 X1 X2 s) (hb:Box w bx x) (hn:bx ∉ deskB pb v0 v1 v2):Box w' bx x:=by
 have hk:w'.heap[bx]? =w.heap[bx]? :=h.out.block _ hb.lt hn
 exact ⟨(cell_of_heap hk).trans hb.c0,(cell_of_heap hk).trans hb.c1,(cell_of_heap hk).trans hb.c2,(cell_of_heap hk).trans hb.c3,(cell_of_heap hk).trans hb.c4,(cell_of_heap hk).trans hb.c5,fun o=>(World.frozen?_of_block (a:=⟨bx,o,none⟩) hk).trans (hb.f o)⟩
theorem own_top {w:World} {k:Int} {s:ByteArray} {n:Int} {sh a:List Int} {l:List T} {x:TV} {F:List Nat} (h:Own w (.mk k s n sh a l) x F):Wee x/\x.kl=l.length/\∃ F1 F2 F3 F4,F=F1++F2++F3++F4/\BkEnt w 0 False True x F1 F2 F3/\OwnL w l x.ka 0 F4:=by
 simp only [Own] at h
 obtain ⟨h1,h2,h3,h4,h5,F1,F2,F3,F4,rfl,h6,h7,h8,h9⟩:=h
 exact ⟨h1,h5,F1,F2,F3,F4,rfl,⟨h6.2.1,h7.2.1,h8,fun h=>h.elim,fun h=>h.elim,fun h=>h.elim,fun _=>⟨h1.s1,h1.a1,h1.l1⟩⟩,h9⟩
set_option maxRecDepth 100000 in
set_option maxHeartbeats 4000000 in
theorem gather_all (t:T):GatherAll t:=by
 refine T.ind (P:=GatherAll) ?_ t
 intro k s0 n sh a l ih x F w pb v0 v1 v2 E s hO hG hn hF hlt hs0 hs1 hE
 obtain ⟨hw,hkl,F1,F2,F3,F4,rfl,hEnt,hL⟩:=own_top hO
 have hs2:=hw.s1
 have ha2:=hw.a1
 have hl2:=hw.l1
 have hs3:=hw.s2
 have ha3:=hw.a2
 have hl3:=hw.l2
 have hb0:Below w.heap.size w (w.alloc (.cells x.cells 34)):=(Below.refl _ _).alloc (Nat.le_refl _) _
 have hG0:Book3 (w.alloc (.cells x.cells 34)) pb v0 v1 v2 (E.map sV) (E.map aV) (E.map kV) s:=Book3.below hG hb0
 have hx0:=Box.new w x 34
 have hdl:=BookG.lt hG
 have hbx:w.heap.size ∉ deskB pb v0 v1 v2:=fun h=>by have:=hdl _ h;omega
 have HENT:=hid hEnt
 have HKL:=hid hkl
 have HIH:=hid ih
 have HO:=hid hL
 have HN:=hid hn
 have HF:=hid hF
 have HLT:=hid hlt
 have HBX:=hid hbx
 have HB0:=hid hb0
 have HG0:=hid hG0
 have HX0:=hid hx0
 have HFA:=hid (show ∀ W:World,Calls Tryz.prog 38 #[.int .i64 x.sl,.int .i64 x.sc] W (fun e w'=>e=.returned (.int .i64 (farN x.sl x.sc))/\w'=W) from fun W=>far_calls x.sl x.sc W (by omega) hs3)
 have HFB:=hid (show ∀ W:World,Calls Tryz.prog 38 #[.int .i64 x.al,.int .i64 x.ac] W (fun e w'=>e=.returned (.int .i64 (farN x.al x.ac))/\w'=W) from fun W=>far_calls x.al x.ac W (by omega) ha3)
 have HFC:=hid (show ∀ W:World,Calls Tryz.prog 38 #[.int .i64 x.kl,.int .i64 x.kc] W (fun e w'=>e=.returned (.int .i64 (farN x.kl x.kc))/\w'=W) from fun W=>far_calls x.kl x.kc W (by omega) hl3)
 have q1:(farN x.sl x.sc:Int)<=17592186114416:=by unfold farN;omega
 have q2:(farN x.al x.ac:Int)<=17592186114416:=by unfold farN;omega
 have q3:(farN x.kl x.kc:Int)<=2199023325552:=by unfold farN;omega
 have hnn:=T.nodes_pos (T.mk k s0 n sh a l)
 have hpbx:pb<w.heap.size:=hdl pb (by simp [deskB])
 clear hO hG hn hF hlt hEnt hkl ih hL hbx hw hdl hb0
 obtain ⟨b0,b1,b2,b3,bf,_,_,_⟩:=hG0
 obtain ⟨k0,k1,k2,k3,k4,k5,kf⟩:=hx0
 generalize e1:farN x.sl x.sc=f1 at HFA q1
 generalize e2:farN x.al x.ac=f2 at HFB q2
 generalize e3:farN x.kl x.kc=f3 at HFC q3
 have r1:IntKind.i64.wrap (s+1200)=s+1200:=by rw [IntKind.wrap_i64];omega
 have r2:IntKind.i64.wrap (8*(f1:Int))=8*f1:=by rw [IntKind.wrap_i64];omega
 have r3:IntKind.i64.wrap (8*(f2:Int))=8*f2:=by rw [IntKind.wrap_i64];omega
 have r4:IntKind.i64.wrap (120*(f3:Int))=120*f3:=by rw [IntKind.wrap_i64];omega
 have r5:IntKind.i64.wrap (s+1200+8*(f1:Int))=s+1200+8*f1:=by rw [IntKind.wrap_i64];omega
 have r6:IntKind.i64.wrap (s+1200+8*(f1:Int)+8*f2)=s+1200+8*f1+8*f2:=by rw [IntKind.wrap_i64];omega
 have r7:IntKind.i64.wrap (s+1200+8*(f1:Int)+8*f2+120*f3)=s+1200+8*f1+8*f2+120*f3:=by rw [IntKind.wrap_i64];omega
 have hz0:w.heap.size<(w.alloc (.cells x.cells 34)).heap.size:=by simp
 have HZ0:=hid hz0
 generalize hW0:w.alloc (.cells x.cells 34)=W0 at HB0 HG0 HX0 b0 b1 b2 b3 bf k0 k1 k2 k3 k4 k5 kf HZ0
 have hne:¬pb=w.heap.size:=by omega
 have hne':¬w.heap.size=pb:=by omega
 simp only [TV.val,TV.cells] at hW0 ⊢
 go_enter Tryz.func37,Tryz.ntmps37
 go_upto_region 1 with fail
 have hq1:s+1200<=s+1200+8*(f1:Int)+8*f2+120*f3:=by omega
 have hq2:s+1200+8*(f1:Int)+8*f2+120*f3<=s+562949953421312:=by omega
 go_cut [] from 5 to 43 (fun wq=>Pushed W0 wq pb v0 v1 v2 v0 v1 v2 (E.map sV) (E.map aV) (E.map kV) (s+1200+8*f1+8*f2+120*f3))
 case first=>
  refine still_tail 37 (by kernel_rfl) (by kernel_rfl) ?_
  simp only [List.take_succ_cons,List.take_zero,List.drop_succ_cons,List.drop_zero]
  repeat (first|still_step|(still_call (HFA.out _))|(still_call (HFB.out _))|(still_call (HFC.out _)))
  refine wpStill_nil ?_
  go_wp2_with fail
  go_meet
  case rel=>exact (HG0.out.sized HN.out (s+1200+8*f1+8*f2+120*f3)).drew
 case rest=>
 have HP1:=hid hcut
 clear hcut b0 b1 b2 b3 bf k0 k1 k2 k3 k4 k5 kf q1 q2 q3 r1 r2 r3 r4 r5 r6 r7 e1 e2 e3
 generalize s+1200+8*(f1:Int)+8*f2+120*f3=s1 at HP1 hq1 hq2
 generalize wc=W1 at HP1 ⊢
 go_upto_region 2 with fail
 obtain ⟨i0,hi0,hz0,hz1,hz2⟩:=info_parts info_ints
 obtain ⟨j0,hj0,hy0,hy1,hy2⟩:=info_parts info_int64s
 obtain ⟨m0,hm0,hmz0,hmz1,hmz2⟩:=info_parts info_terms
 have hEl:(E.map sV).length+1<=1099511627776:=by rw [List.length_map];omega
 have hEm:(E.map aV).length+1<=1099511627776:=by rw [List.length_map];omega
 have hEk:(E.map kV).length+1<=1099511627776:=by rw [List.length_map];omega
 obtain ⟨k0,k1,k2,k3,k4,k5,kf⟩:=HP1.out.box HX0.out HBX.out
 have b0:=HP1.out.book.c0
 have bf:=HP1.out.book.f 0
 have hpw:pb<W1.heap.size:=HP1.out.book.lt pb (by simp [deskB])
 have hbw:w.heap.size<W1.heap.size:=by have:=HZ0.out;have:=HP1.out.out.size;omega
 have np1:¬pb=W1.heap.size:=by omega
 have np2:¬w.heap.size=W1.heap.size:=by omega
 go_cut [] from 44 to 55 (fun wq=>∃ u0,Pushed W0 wq pb v0 v1 v2 u0 v1 v2 (E.map sV++[sV x]) (E.map aV) (E.map kV) s1)
 case first=>
  go_region_law (first
   |(refine step_append_lies _ (by rfl) _ _ 48 (by rfl) 0 28 i0 _ 1 24 Tryz.underlying48 hi0 hz0 hz1 hz2 (by rfl) (by decide) v0 E.length (E.map sV) (by rfl) ((by have:=HP1.out.book.r0;rwa [List.length_map] at this:W1.ownsRow 0 28 1 v0 E.length (E.map sV)).kept (grown_of_below (by go_grown) none) (Classical.em _)) ⟨W1.heap.size,0,none⟩ 1 1 [sV x] (by rfl) (by rfl) (row_new W1 #[sV x] _) (by intro u hu;simp at hu;subst hu;rfl) (by omega) (by unfold maxLen;omega) (by omega) (Nat.zero_le _) _ rfl ?_;intro g cap w5 hown hgrow hat hlt5;obtain ⟨_,hc5,hf5,_,_⟩:=push_facts HP1.out.book (.inl rfl) HP1.out.nodup (by go_grown:Below W1.heap.size W1 _) hgrow;have p50:=(hc5 0).trans HP1.out.book.c0;have p5f:=hf5 0;clear hc5 hf5))
  all_goals
   go_wp2_with fail
   go_meet
   case rel=>exact ⟨_,HP1.out.trans (HP1.out.book.push0 (List.length_map _) HP1.out.nodup (by go_grown) hown hgrow hat)⟩
 case rest=>
 obtain ⟨u0,hcut⟩:=hcut
 have HP2:=hid hcut
 clear hcut k0 k1 k2 k3 k4 k5 kf b0 bf hpw hbw np1 np2 HP1
 generalize wc=W2 at HP2 ⊢
 go_upto_region 3 with fail
 obtain ⟨k0,k1,k2,k3,k4,k5,kf⟩:=HP2.out.box HX0.out HBX.out
 have b0:=HP2.out.book.c1
 have bf:=HP2.out.book.f 1
 have hpw:pb<W2.heap.size:=HP2.out.book.lt pb (by simp [deskB])
 have hbw:w.heap.size<W2.heap.size:=by have:=HZ0.out;have:=HP2.out.out.size;omega
 have np1:¬pb=W2.heap.size:=by omega
 have np2:¬w.heap.size=W2.heap.size:=by omega
 go_cut [] from 56 to 67 (fun wq=>∃ u1,Pushed W0 wq pb v0 v1 v2 u0 u1 v2 (E.map sV++[sV x]) (E.map aV++[aV x]) (E.map kV) s1)
 case first=>
  go_region_law (first
   |(refine step_append_lies _ (by rfl) _ _ 49 (by rfl) 0 29 j0 _ 1 24 Tryz.underlying49 hj0 hy0 hy1 hy2 (by rfl) (by decide) v1 E.length (E.map aV) (by rfl) ((by have:=HP2.out.book.r1;rwa [List.length_map] at this:W2.ownsRow 0 29 1 v1 E.length (E.map aV)).kept (grown_of_below (by go_grown) none) (Classical.em _)) ⟨W2.heap.size,0,none⟩ 1 1 [aV x] (by rfl) (by rfl) (row_new W2 #[aV x] _) (by intro u hu;simp at hu;subst hu;rfl) (by omega) (by unfold maxLen;omega) (by omega) (Nat.zero_le _) _ rfl ?_;intro g cap w5 hown hgrow hat hlt5;obtain ⟨_,hc5,hf5,_,_⟩:=push_facts HP2.out.book (.inr (.inl rfl)) HP2.out.nodup (by go_grown:Below W2.heap.size W2 _) hgrow;have p50:=(hc5 1).trans HP2.out.book.c1;have p5f:=hf5 1;clear hc5 hf5))
  all_goals
   go_wp2_with fail
   go_meet
   case rel=>exact ⟨_,HP2.out.trans (HP2.out.book.push1 (List.length_map _) HP2.out.nodup (by go_grown) hown hgrow hat)⟩
 case rest=>
 obtain ⟨u1,hcut⟩:=hcut
 have HP3:=hid hcut
 clear hcut k0 k1 k2 k3 k4 k5 kf b0 bf hpw hbw np1 np2 HP2
 generalize wc=W3 at HP3 ⊢
 go_upto_region 4 with fail
 obtain ⟨k0,k1,k2,k3,k4,k5,kf⟩:=HP3.out.box HX0.out HBX.out
 have b0:=HP3.out.book.c2
 have bf:=HP3.out.book.f 2
 have hpw:pb<W3.heap.size:=HP3.out.book.lt pb (by simp [deskB])
 have hbw:w.heap.size<W3.heap.size:=by have:=HZ0.out;have:=HP3.out.out.size;omega
 have np1:¬pb=W3.heap.size:=by omega
 have np2:¬w.heap.size=W3.heap.size:=by omega
 go_cut [] from 68 to 78 (fun wq=>∃ u2,Pushed W0 wq pb v0 v1 v2 u0 u1 u2 (E.map sV++[sV x]) (E.map aV++[aV x]) (E.map kV++[kV x]) s1)
 case first=>
  go_region_law (first
   |(refine step_append_lies _ (by rfl) _ _ 50 (by rfl) 0 32 m0 _ 1 24 Tryz.underlying50 hm0 hmz0 hmz1 hmz2 (by rfl) (by decide) v2 E.length (E.map kV) (by rfl) ((by have:=HP3.out.book.r2;rwa [List.length_map] at this:W3.ownsRow 0 32 1 v2 E.length (E.map kV)).kept (grown_of_below (by go_grown) none) (Classical.em _)) ⟨W3.heap.size,0,none⟩ 1 1 [kV x] (by rfl) (by rfl) (row_new W3 #[kV x] _) (by intro u hu;simp at hu;subst hu;rfl) (by omega) (by unfold maxLen;omega) (by omega) (Nat.zero_le _) _ rfl ?_;intro g cap w5 hown hgrow hat hlt5;obtain ⟨_,hc5,hf5,_,_⟩:=push_facts HP3.out.book (.inr (.inr rfl)) HP3.out.nodup (by go_grown:Below W3.heap.size W3 _) hgrow;have p50:=(hc5 2).trans HP3.out.book.c2;have p5f:=hf5 2;clear hc5 hf5))
  all_goals
   go_wp2_with fail
   go_meet
   case rel=>exact ⟨_,HP3.out.trans (HP3.out.book.push2 (List.length_map _) HP3.out.nodup (by go_grown) hown hgrow hat)⟩
 case rest=>
 obtain ⟨u2,hcut⟩:=hcut
 have HP4:=hid hcut
 clear hcut k0 k1 k2 k3 k4 k5 kf b0 bf hpw hbw np1 np2 HP3
 generalize wc=W4 at HP4 ⊢
 have HG0':=hid (show GRel w W0 W4 pb v0 v1 v2 u0 u1 u2 E x l 0 [] s s1 F4 [] F4 from
  ⟨by simpa using HP4.out,rfl,rfl,HO.out,rfl,by simpa using hq1,by simpa using hq2⟩)
 clear HP4
 have HKEEP:=hid (fun (W:World) (h:Outside (deskB pb v0 v1 v2) W0 W) (c:Nat) (hc:c∈F1++F2++F3++F4)=>(show W.heap[c]? =w.heap[c]? from (h.block c (by have:=HLT.out c hc;have:=HZ0.out;omega) (HF.out c hc)).trans (HB0.out.block c (HLT.out c hc))))
 have H3:=hid (fun (c:Nat) (hc:c∈F3)=>(show c∈F1++F2++F3++F4 by simp [hc]))
 have H4:=hid (fun (c:Nat) (hc:c∈F4)=>(show c∈F1++F2++F3++F4 by simp [hc]))
 have hnod:(T.mk k s0 n sh a l).nodes=1+T.nodesL l:=by simp [T.nodes]<;>omega
 rw [hnod] at hs1 hE
 clear hEl hEm hEk
 go_wp2_with fail
 go_loopw [4] (fun i wr=>∃ (K:Nat) (u0 u1 u2:Value) (L:List TV) (s':Int) (F' Fr:List Nat),K<=x.kl/\i=.int .i64 K/\GRel w W0 wr pb v0 v1 v2 u0 u1 u2 E x l K L s s' F4 F' Fr) (fun i _=>x.kl-(intOf i).toNat)
 case atStart=>exact ⟨0,u0,u1,u2,[],s1,[],F4,Nat.zero_le _,rfl,HG0'.out⟩
 case round=>
  obtain ⟨K,y0,y1,y2,L,s',F',Fr,hK,rfl,hrel⟩:=hrel
  have HR:=hid hrel
  obtain ⟨k0,k1,k2,k3,k4,k5,kf⟩:=hrel.push.box HX0.out HBX.out
  by_cases hlt:K<x.kl
  ·have hKl:K<l.length:=by rw [<-HKL.out];exact hlt
   obtain ⟨Fa,Fb,b,y,eF,hka,hat,hown,hrest⟩:=OwnL.uncons hKl hrel.rest
   have hk:=HKEEP.out _ hrel.push.out
   have hb3:b∈F3:=by
    obtain ⟨b',e,hF3⟩:=HENT.out.o3.block (by omega)
    rw [hka] at e
    cases e
    simp [hF3]
   have hsub:∀ c∈Fa,c∈F4:=fun c hc=>by rw [hrel.split,eF];simp [hc]
   have hnl:T.nodesL (l.take K)+l[K].nodes<=T.nodesL l:=by rw [<-nodesL_take (List.getElem?_eq_getElem hKl)];exact nodesL_take_le l (K+1)
   have hlen:=hrel.len
   have hlo:=hrel.lo
   have hhi:=hrel.hi
   have HC:=hid (HIH.out l[K] (List.getElem_mem hKl) y Fa wr pb y0 y1 y2 (E++x::L) s' (Own.kept _ _ _ hown (fun c hc=>hk c (H4.out c (hsub c hc)))) hrel.push.book hrel.push.nodup
    (fun c hc hm=>by
     have h1:=HLT.out c (H4.out c (hsub c hc))
     have h2:=HZ0.out
     rcases hrel.push.new c hm with h|h
     ·exact HF.out c (H4.out c (hsub c hc)) h
     ·omega)
    (fun c hc=>by
     have h1:=HLT.out c (H4.out c (hsub c hc))
     have h2:=HZ0.out
     have h3:=hrel.push.out.size
     omega)
    (by omega) (by omega) (by simp only [List.length_append,List.length_cons];omega))
   have HSTEP:=hid (fun (w2:World) (x0 x1 x2:Value) (M:List TV) (s2:Int) (hp:Pushed wr w2 pb y0 y1 y2 x0 x1 x2 (((E++x::L)++M).map sV) (((E++x::L)++M).map aV) (((E++x::L)++M).map kV) s2) (he:BkEnts wr AllF AllT 0 M Fa) (hl:M.length=l[K].nodes) (h1:s'+1200*M.length<=s2) (h2:s2<=s'+M.length*562949953421312)=>
    HR.out.step (List.getElem?_eq_getElem hKl) eF hrest hp (he.kept (fun c hc=>(hk c (H4.out c (hsub c hc))).symm)) hl h1 h2)
   obtain ⟨p0,p1,p2,p3,p4,p5⟩:=hat.kept (hk b (H3.out b hb3))
   have hlc:x.kl<=x.kc:=HENT.out.o3.bounds.1
   simp only [TV.val,TV.cells] at HC
   rw [hka] at k5
   clear hrel hat hown hrest hk hb3 hsub hnl hlen hlo hhi eF hka
   go_wp2_with fail
   refine HC.out.mono ?_
   rintro e w2 ⟨rfl,x0,x1,x2,M,s2,hp,he,hl,h1,h2⟩
   have HG2:=hid (HSTEP.out w2 x0 x1 x2 M s2 hp he hl h1 h2)
   clear hp he hl h1 h2 k0 k1 k2 k3 k4 k5 kf p0 p1 p2 p3 p4 p5
   go_wp2_with fail
   go_roundw
   case rel=>exact ⟨K+1,x0,x1,x2,L++M,s2,_,_,by omega,by go_num,HG2.out⟩
   case measure=>simp [intOf];omega
  ·obtain rfl:K=x.kl:=by omega
   have HP:=hid (show GatherPost (T.mk k s0 n sh a l) (F1++F2++F3++F4) w pb v0 v1 v2 E s (.returned (.tuple #[])) wr from by
    have hd:l.drop x.kl=[]:=by rw [HKL.out];exact List.drop_length
    have hr:=hrel.rest
    rw [hd] at hr
    have hr:Fr=[]:=hr
    have e4:F4=F':=by rw [hrel.split,hr,List.append_nil]
    have hlen:=hrel.len
    rw [HKL.out,List.take_length] at hlen
    have hlo:=hrel.lo
    have hhi:=hrel.hi
    refine ⟨rfl,y0,y1,y2,x::L,s',Pushed.ahead HB0.out hrel.push,?_,?_,?_,?_⟩
    ·refine ⟨F1,F2,F3,F4,rfl,HENT.out,?_⟩
     rw [e4]
     exact hrel.ents.shift
    ·rw [hnod,List.length_cons,hlen];omega
    ·rw [List.length_cons];omega
    ·rw [List.length_cons];omega)
   clear hrel
   go_wp2_with fail
   refine bodyPost_ret (results_none rfl _ _ _) rfl HP.out
end Go.Proofs.YtpfkhdlnjefikaaGreatDoor
