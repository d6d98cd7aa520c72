/- The parser in memory. -/
import Derived.Test.YtimcmghhbdfjfaaGreatDoorQPzA
import Derived.Laws.OwnMore
import Derived.Deep.AppendLies
set_option linter.unusedVariables false
set_option linter.unusedSimpArgs false
namespace Go.Proofs.YtimcmghhbdfjfaaGreatDoor
open Go.RowKit
structure Away (p B:Nat) (w w':World):Prop where
 os:w'.os=w.os
 tape:w'.tape=w.tape
 output:w'.output=w.output
 size:w.heap.size<=w'.heap.size
 block:∀ b,b<B->b≠p->w'.heap[b]? =w.heap[b]?
theorem Away.of_below {p B:Nat} {w w':World} (h:Below B w w'):Away p B w w':=⟨h.os,h.tape,h.output,h.size,fun b hb _=>h.block b hb⟩
theorem Away.refl (p B:Nat) (w:World):Away p B w w:=.of_below (qb B w)
theorem Away.trans {p B:Nat} {a b c:World} (h:Away p B a b) (k:Away p B b c):Away p B a c:=
 ⟨k.os.trans h.os,k.tape.trans h.tape,k.output.trans h.output,qi h.size k.size,fun x hx hp=>(k.block x hx hp).trans (h.block x hx hp)⟩
theorem Away.mono {p B B':Nat} {a b:World} (h:Away p B a b) (hB:B'<=B):Away p B' a b:=⟨h.os,h.tape,h.output,h.size,fun x hx hp=>h.block x (Nat.lt_of_lt_of_le hx hB) hp⟩
theorem Away.below {p B:Nat} {a b c:World} (h:Away p B a b) (k:Below B b c):Away p B a c:=h.trans (.of_below k)
theorem Away.alloc {p B:Nat} {a w:World} (h:Away p B a w) (hB:B<=w.heap.size) (o:Obj):Away p B a (w.alloc o):=h.below ((qb B w).alloc hB o)
theorem Away.setCell {p B:Nat} {a w:World} (h:Away p B a w) {q:Addr} (hq:q.block=p\/B<=q.block) (u:Value):Away p B a (w.setCell q u):=
 h.trans ⟨rfl,rfl,rfl,by simp [World.setCell],fun k hk hp=>qh _ _ _ _ (fun e=>by rcases hq with hq|hq;exact hp (e.trans hq);omega)⟩
theorem Away.cell {p B:Nat} {w w':World} (h:Away p B w w') {q:Addr} (h1:q.block<B) (h2:q.block≠p):w'.cell? q=w.cell? q:=World.cell?_of_block (w:=w) (h.block q.block h1 h2)
structure From (F:List Nat) (lo hi:Nat) (G:List Nat):Prop where
 nodup:G.Nodup
 mem:∀ b∈G,b∈F\/(lo<=b/\b<hi)
structure PS where
 pb:Nat
 wa:Option Addr
 wb:Nat
 wc:Nat
 ws:List Pz.W
 e:Nat
structure WordsAt (w:World) (wa:Option Addr) (wb:Nat) (ws:List Pz.W):Prop where
 at_:∀ (i:Nat) (v:Pz.W),ws[i]? =some v->wa=some ⟨wb,0,none⟩/\w.cell? ⟨wb,i*3,none⟩=some (.int .i64 v.kind)/\w.cell? ⟨wb,i*3+1,none⟩=some (.string (Pz.bytes v.text))/\w.cell? ⟨wb,i*3+2,none⟩=some (.int .i64 (v.at_:Int))
structure Vars (w:World):Prop where
 ml:∃ m:Int,w.cell? ⟨2,0,none⟩=some (.int .i64 m)
 er:∃ ev:Value,w.cell? ⟨5,0,none⟩=some ev/\(ev=.nilIface\/∃ te pe,ev=.iface te pe)
theorem Vars.kept {w w':World} (h:Vars w) (h1:w'.heap[2]? =w.heap[2]?) (h2:w'.heap[5]? =w.heap[5]?):Vars w':=by
 obtain ⟨⟨m,hm⟩,ev,he,hv⟩:=h;exact ⟨⟨m,(cell_of_heap h1).trans hm⟩,ev,(cell_of_heap h2).trans he,hv⟩
theorem Vars.lt {w:World} (h:Vars w):2<w.heap.size/\5<w.heap.size:=by
 obtain ⟨⟨m,hm⟩,ev,he,hv⟩:=h;exact ⟨qc _ _ hm,qc _ _ he⟩
theorem Vars.later {w w':World} {B:Nat} (h:Vars w) (hb:Below B w w') (hB:w.heap.size<=B):Vars w':=
 h.kept (hb.block _ (Nat.lt_of_lt_of_le h.lt.1 hB)) (hb.block _ (Nat.lt_of_lt_of_le h.lt.2 hB))
theorem Vars.set {w:World} (h:Vars w) {q:Addr} (h1:2≠q.block) (h2:5≠q.block) (u:Value):Vars (w.setCell q u):=
 h.kept (qh _ _ _ _ h1) (qh _ _ _ _ h2)
def Off (s:PS) (b:Nat):Prop:=(s.ws≠[]->b≠s.wb)/\2≠b/\5≠b
structure PS.Ok (s:PS):Prop where
 len:s.ws.length<=1048576
 end_:s.e<=1048576
 cap0:s.ws.length<=s.wc
 cap1:s.wc<=maxLen
 ne:s.wb≠s.pb
 word:∀ (i:Nat) (v:Pz.W),s.ws[i]? =some v->v.at_<=s.e/\Pz.WordOk 1048576 v
 g1:2≠s.pb
 g2:5≠s.pb
structure PAt (w:World) (s:PS) (n o:Nat):Prop where
 ok:s.Ok
 c0:w.cell? ⟨s.pb,0,none⟩=some (.slice s.wa s.ws.length s.wc)
 c1:w.cell? ⟨s.pb,1,none⟩=some (.int .i64 (n:Int))
 c2:w.cell? ⟨s.pb,2,none⟩=some (.int .i64 (s.e:Int))
 c3:w.cell? ⟨s.pb,3,none⟩=some (.int .i64 (o:Int))
 fz:∀ o,w.frozen? ⟨s.pb,o,none⟩=false
 wlt:s.ws≠[]->s.wb<w.heap.size
 words:WordsAt w s.wa s.wb s.ws
 vars:Vars w
theorem PAt.lt {w:World} {s:PS} {n o:Nat} (h:PAt w s n o):s.pb<w.heap.size:=qc _ _ h.c0
theorem WordsAt.kept {w w':World} {wa:Option Addr} {wb:Nat} {ws:List Pz.W} (h:WordsAt w wa wb ws) (hk:ws≠[]->w'.heap[wb]? =w.heap[wb]?):WordsAt w' wa wb ws:=by
 refine ⟨fun i v hv=>?_⟩;obtain ⟨h0,h1,h2,h3⟩:=h.at_ i v hv;have hk:=hk (fun e=>by subst e;simp at hv);exact ⟨h0,(cell_of_heap hk).trans h1,(cell_of_heap hk).trans h2,(cell_of_heap hk).trans h3⟩
theorem frozen_of_heap {w w':World} {b o:Nat} (h:w'.heap[b]? =w.heap[b]?):w'.frozen? ⟨b,o,none⟩=w.frozen? ⟨b,o,none⟩:=World.frozen?_of_block (a:=⟨b,o,none⟩) h
theorem PAt.below {w w':World} {s:PS} {n o B:Nat} (h:PAt w s n o) (hb:Below B w w') (h1:s.pb<B) (h2:s.ws≠[]->s.wb<B) (h3:w.heap.size<=B):PAt w' s n o:=
 ⟨h.ok,(cell_of_heap (hb.block _ h1)).trans h.c0,(cell_of_heap (hb.block _ h1)).trans h.c1,(cell_of_heap (hb.block _ h1)).trans h.c2,(cell_of_heap (hb.block _ h1)).trans h.c3,fun o=>(frozen_of_heap (hb.block _ h1)).trans (h.fz o),fun e=>by have:=h.wlt e;have:=hb.size;omega,h.words.kept (fun e=>hb.block _ (h2 e)),h.vars.later hb h3⟩
theorem PAt.later {w w':World} {s:PS} {n o:Nat} (h:PAt w s n o) (hb:Below w.heap.size w w'):PAt w' s n o:=h.below hb h.lt h.wlt (qa _)
theorem PAt.next {w:World} {s:PS} {n o:Nat} (h:PAt w s n o) (m:Nat) {v:Value} (hv:v=.int .i64 (m:Int)):PAt (w.setCell ⟨s.pb,1,none⟩ v) s m o:=by
 subst hv;have hc:=h.c1;refine ⟨h.ok,?_,?_,?_,?_,fun o=>?_,fun e=>by simpa [World.setCell] using h.wlt e,h.words.kept (fun _=>qh _ _ _ _ h.ok.ne),h.vars.set h.ok.g1 h.ok.g2 _⟩;all_goals simp [go_sem,h.c0,h.c1,h.c2,h.c3,h.fz]
theorem PAt.opened {w:World} {s:PS} {n o:Nat} (h:PAt w s n o) (m:Nat) {v:Value} (hv:v=.int .i64 (m:Int)):PAt (w.setCell ⟨s.pb,3,none⟩ v) s n m:=by
 subst hv;refine ⟨h.ok,?_,?_,?_,?_,fun o=>?_,fun e=>by simpa [World.setCell] using h.wlt e,h.words.kept (fun _=>qh _ _ _ _ h.ok.ne),h.vars.set h.ok.g1 h.ok.g2 _⟩;all_goals simp [go_sem,h.c0,h.c1,h.c2,h.c3,h.fz]
theorem PAt.drewN {w:World} {s:PS} {n o:Nat} (h:PAt w s n o) (k:Nat):PAt (w.drewN k) s n o:=
 h.below (below_drewN (qb w.heap.size w) k) h.lt h.wlt (qa _)
def faultEntry (ty:TypeId) (c p:Int):PanicEntry:={ v:=.iface ty (.agg #[.int .i64 c,.int .i64 p]),recovered:=false }
def PT (ty:TypeId) (s:PS) (F:List Nat) (w:World) (o:Nat) (r:Pz.R (T × Nat)) (e:Ending) (w':World):Prop:=
 match r with
 |.ok (t,m)=>∃ y G,e=.returned y.val/\Own w' t y G/\From F w.heap.size w'.heap.size G/\PAt w' s m o/\Away s.pb w.heap.size w w'
 |.bad c p=>e=.panicked [faultEntry ty c p]/\Away s.pb w.heap.size w w'
namespace Pz
structure Side {α β:Type} (O:α->β->List Nat->Prop) (l:List α) (ys:List β) (Fs:List (List Nat)):Prop where
 ly:ys.length=l.length
 lf:Fs.length=l.length
 own:∀ (i:Nat) (t:α) (y:β) (F:List Nat),l[i]? =some t->ys[i]? =some y->Fs[i]? =some F->O t y F
theorem Side.nil {α β:Type} (O:α->β->List Nat->Prop):Side O [] [] []:=⟨rfl,rfl,fun _ _ _ _ h=>by simp at h⟩
theorem Side.cons {α β:Type} {O:α->β->List Nat->Prop} {l:List α} {ys:List β} {Fs:List (List Nat)} {t:α} {y:β} {G:List Nat} (ht:O t y G) (h:Side O l ys Fs):Side O (t::l) (y::ys) (G::Fs):=by
 refine ⟨by simp [h.ly],by simp [h.lf],fun i t' y' F h1 h2 h3=>?_⟩;cases i with
 |zero=>simp at h1 h2 h3;subst h1 h2 h3;exact ht
 |succ i=>exact h.own i t' y' F (by simpa using h1) (by simpa using h2) (by simpa using h3)
theorem Side.one {α β:Type} {O:α->β->List Nat->Prop} {t:α} {y:β} {G:List Nat} (ht:O t y G):Side O [t] [y] [G]:=Side.cons ht (.nil O)
theorem Side.snoc {α β:Type} {O:α->β->List Nat->Prop} {l:List α} {ys:List β} {Fs:List (List Nat)} (h:Side O l ys Fs) {t:α} {y:β} {G:List Nat} (ht:O t y G):Side O (l++[t]) (ys++[y]) (Fs++[G]):=by
 refine ⟨by simp [h.ly],by simp [h.lf],fun i t' y' F h1 h2 h3=>?_⟩;by_cases hi:i<l.length
 ·rw [List.getElem?_append_left hi] at h1
  rw [List.getElem?_append_left (by rw [h.ly];exact hi)] at h2;rw [List.getElem?_append_left (by rw [h.lf];exact hi)] at h3;exact h.own i t' y' F h1 h2 h3
 ·have hle:l.length<=i:=Nat.le_of_not_lt hi
  rw [List.getElem?_append_right hle] at h1;have he:i-l.length=0:=by
   have:=(qn.1 h1).1;simpa using this
  rw [List.getElem?_append_right (by rw [h.ly];exact hle),h.ly,he] at h2;rw [List.getElem?_append_right (by rw [h.lf];exact hle),h.lf,he] at h3;rw [he] at h1;simp at h1 h2 h3;subst h1 h2 h3;exact ht
theorem Side.mono {α β:Type} {O O':α->β->List Nat->Prop} {l:List α} {ys:List β} {Fs:List (List Nat)} (h:Side O l ys Fs) (k:∀ t y F,t∈l->F∈Fs->O t y F->O' t y F):Side O' l ys Fs:=
 ⟨h.ly,h.lf,fun i t y F h1 h2 h3=>k t y F (List.mem_of_getElem? h1) (List.mem_of_getElem? h3) (h.own i t y F h1 h2 h3)⟩
theorem Side.at_ {α β:Type} {O:α->β->List Nat->Prop} {l:List α} {ys:List β} {Fs:List (List Nat)} (h:Side O l ys Fs) {i:Nat} {t:α} (ht:l[i]? =some t):∃ y F,ys[i]? =some y/\Fs[i]? =some F/\O t y F:=by
 have hi:=(qn.1 ht).1;have h1:i<ys.length:=by rw [h.ly];exact hi
 have h2:i<Fs.length:=by rw [h.lf];exact hi
 exact ⟨ys[i],Fs[i],by simp,by simp,h.own i t _ _ ht (by simp) (by simp)⟩
theorem mem_flat {Fs:List (List Nat)} {i:Nat} {F:List Nat} (h:Fs[i]? =some F) {b:Nat} (hb:b∈F):b∈Fs.flatten:=List.mem_flatten.2 ⟨F,List.mem_of_getElem? h,hb⟩
theorem flat_apart {Fs:List (List Nat)} (h:Fs.flatten.Nodup) {i j:Nat} {F G:List Nat} (hi:Fs[i]? =some F) (hj:Fs[j]? =some G) (hij:i≠j):∀ x∈F,x ∉ G:=by
 have hp:=(List.pairwise_flatten.1 h).2;rw [List.pairwise_iff_getElem] at hp;obtain ⟨h1,rfl⟩:=qn.1 hi;obtain ⟨h2,rfl⟩:=qn.1 hj;intro x hx hy;rcases Nat.lt_or_gt_of_ne hij with h'|h'
 ·exact hp i j h1 h2 h' x hx x hy rfl
 ·exact hp j i h2 h1 h' x hy x hx rfl
theorem flat_nodup {Fs:List (List Nat)} (h:Fs.flatten.Nodup) {i:Nat} {F:List Nat} (hi:Fs[i]? =some F):F.Nodup:=(List.pairwise_flatten.1 h).1 F (List.mem_of_getElem? hi)
def tcells (ys:List TV):List Value:=ys.flatMap fun y=>y.cells.toList
theorem tcells_cons (y:TV) (ys:List TV):tcells (y::ys)=y.cells.toList++tcells ys:=by simp [tcells]
theorem tcells_len (ys:List TV):(tcells ys).length=ys.length*6:=by
 induction ys with
 |nil=>rfl
 |cons y ys ih=>rw [tcells_cons,List.length_append,ih];simp [TV.cells];omega
theorem laid {w:World} {b:Nat}:∀ {l:List T} {ys:List TV} {Fs:List (List Nat)} (i:Nat),Side (Own w) l ys Fs->(∀ j u,(tcells ys)[j]? =some u->w.cell? ⟨b,i*6+j,none⟩=some u)->OwnL w l (some ⟨b,0,none⟩) i Fs.flatten
 |[],ys,Fs,_,h,_=>by
  have h1:=List.eq_nil_of_length_eq_zero h.lf;subst h1;rfl
 |t::l,[],_,_,h,_=>by have:=h.ly;simp at this
 |t::l,_::_,[],_,h,_=>by have:=h.lf;simp at this
 |t::l,y::ys,F::Fs,i,h,hc=>by
  have hat:At w b (i*6) y:=by
   constructor
   ·exact hc 0 _ (by rw [tcells_cons];rfl)
   ·exact hc 1 _ (by rw [tcells_cons];rfl)
   ·exact hc 2 _ (by rw [tcells_cons];rfl)
   ·exact hc 3 _ (by rw [tcells_cons];rfl)
   ·exact hc 4 _ (by rw [tcells_cons];rfl)
   ·exact hc 5 _ (by rw [tcells_cons];rfl)
  refine ⟨F,Fs.flatten,by simp,⟨b,y,rfl,hat,h.own 0 t y F rfl rfl rfl⟩,laid (i+1) ⟨by have:=h.ly;simpa using this,by have:=h.lf;simpa using this,fun j t' y' F' h1 h2 h3=>h.own (j+1) t' y' F' (by simpa using h1) (by simpa using h2) (by simpa using h3)⟩ (fun j u hu=>?_)⟩;have:=hc (6+j) u (by rw [tcells_cons,List.getElem?_append_right (by simp [TV.cells])];simpa [TV.cells] using hu)
  rwa [show i*6+(6+j)=(i+1)*6+j from by omega] at this
def OwnR (w:World) (A:Option Addr) (len cap:Nat) (l:List T) (F:List Nat):Prop:=
 len=l.length/\∃ ys Fs,Side (Own w) l ys Fs/\((l=[]/\cap=0/\F=[])\/∃ b cur,A=some ⟨b,0,none⟩/\F=[b]++Fs.flatten/\w.heap[b]? =some (.cells cur 28 (0,0))/\len<=cap/\cap<=maxLen/\cap*6<=cur.size/\∀ j u,(tcells ys)[j]? =some u->w.cell? ⟨b,j,none⟩=some u)
theorem OwnR.split {w:World} {A:Option Addr} {len cap:Nat} {l:List T} {F:List Nat} (h:OwnR w A len cap l F):∃ F3 F4,F=F3++F4/\OwnB w 28 6 A len cap F3/\OwnL w l A 0 F4:=by
 obtain ⟨hl,ys,Fs,hs,⟨rfl,hc,rfl⟩|⟨b,cur,rfl,rfl,hb,h1,h2,h3,h4⟩⟩:=h
 ·exact ⟨[],[],rfl,.inl ⟨hl,hc,rfl⟩,rfl⟩
 ·exact ⟨[b],Fs.flatten,rfl,.inr ⟨b,cur,rfl,rfl,hb,h1,h2,h3⟩,laid 0 hs (fun j u hu=>by rw [Nat.zero_mul,Nat.zero_add];exact h4 j u hu)⟩
theorem OwnR.kept {w w':World} {A:Option Addr} {len cap:Nat} {l:List T} {F:List Nat} (h:OwnR w A len cap l F) (hk:∀ b∈F,w'.heap[b]? =w.heap[b]?):OwnR w' A len cap l F:=by
 obtain ⟨hl,ys,Fs,hs,⟨rfl,hc,rfl⟩|⟨b,cur,rfl,rfl,hb,h1,h2,h3,h4⟩⟩:=h
 ·refine ⟨hl,[],[],.nil _,.inl ⟨rfl,hc,rfl⟩⟩
 ·refine ⟨hl,ys,Fs,hs.mono (fun t y F _ hF h=>Own.kept t y F h (fun c hc=>hk c (List.mem_append_right _ (List.mem_flatten.2 ⟨F,hF,hc⟩)))),.inr ⟨b,cur,rfl,rfl,(hk b (by simp)).trans hb,h1,h2,h3,fun j u hu=>(cell_of_heap (hk b (by simp))).trans (h4 j u hu)⟩⟩
structure UV where
 t:TV
 ga:Option Addr
 gl:Nat
 gc:Nat
 cap:Bool
 at_:Int
def UV.cells (x:UV):Array Value:=#[.int .i64 x.t.kind,.string x.t.text,.int .i64 x.t.n,.slice x.t.sa x.t.sl x.t.sc,.slice x.t.aa x.t.al x.t.ac,.slice x.t.ka x.t.kl x.t.kc,.slice x.ga x.gl x.gc,.bool x.cap,.int .i64 x.at_]
def UV.val (x:UV):Value:=.agg x.cells
def OwnG (w:World) (g:Option (List T)) (A:Option Addr) (len cap:Nat) (F:List Nat):Prop:=
 match g with
 |none=>A=none/\len=0/\cap=0/\F=[]
 |some l=>A≠none/\(2<=l.length/\l.length<=1048576)/\OwnR w A len cap l F
structure OwnU (w:World) (u:U) (x:UV) (F:List Nat):Prop where
 parts:∃ F1 F2,F=F1++F2/\Own w u.t x.t F1/\OwnG w u.gerund x.ga x.gl x.gc F2
 cap:x.cap=u.cap
 at_:x.at_=u.at_
theorem OwnU.kept {w w':World} {u:U} {x:UV} {F:List Nat} (h:OwnU w u x F) (hk:∀ b∈F,w'.heap[b]? =w.heap[b]?):OwnU w' u x F:=by
 obtain ⟨⟨F1,F2,rfl,h1,h2⟩,h3,h4⟩:=h;refine ⟨⟨F1,F2,rfl,Own.kept _ _ _ h1 (fun b hb=>hk b (by simp [hb])),?_⟩,h3,h4⟩;unfold OwnG at h2 ⊢;split at h2
 ·exact h2
 ·exact ⟨h2.1,h2.2.1,h2.2.2.kept (fun b hb=>hk b (by simp [hb]))⟩
def unitTV (y:TV) (at_:Int):UV:=⟨y,none,0,0,false,at_⟩
theorem ownU_term {w:World} {t:T} {y:TV} {F:List Nat} (h:Own w t y F) (at_:Int):OwnU w ⟨t,none,false,at_⟩ (unitTV y at_) F:=⟨⟨F,[],by simp,h,rfl,rfl,rfl,rfl⟩,rfl,rfl⟩
def ucells (xs:List UV):List Value:=xs.flatMap fun x=>x.cells.toList
theorem ucells_cons (x:UV) (xs:List UV):ucells (x::xs)=x.cells.toList++ucells xs:=by simp [ucells]
theorem ucells_at:∀ (xs:List UV) (i:Nat) (x:UV),xs[i]? =some x->∀ (j:Nat) (v:Value),x.cells[j]? =some v->(ucells xs)[i*9+j]? =some v
 |[],_,_,h,_,_,_=>by simp at h
 |y::xs,0,x,h,j,v,hv=>by
  simp at h;subst h;have hj:j<9:=(Array.getElem?_eq_some_iff.1 hv).1;rw [ucells_cons,Nat.zero_mul,Nat.zero_add,List.getElem?_append_left (by simpa [UV.cells] using hj)];simpa using hv
 |y::xs,i+1,x,h,j,v,hv=>by
  have:=ucells_at xs i x (by simpa using h) j v hv;rw [ucells_cons,List.getElem?_append_right (by simp [UV.cells];omega)];rw [<-this]
  congr 1
  simp [UV.cells];omega
end Pz
open Go.RowKit
namespace Pz
theorem ownsRow_kept {w w':World} {base:Nat} {e:TypeId} {size n:Nat} {v:Value} {xs:List Value} (h:w.ownsRow base e size v n xs) (hk:∀ g,v.ownBlock=some g->w'.heap[g]? =w.heap[g]?):w'.ownsRow base e size v n xs:=by
 refine ⟨h.1,?_⟩;rcases h.2 with hn|⟨g,cap,cur,rfl,hb,hgg,rest⟩
 ·exact .inl hn
 ·exact .inr ⟨g,cap,cur,rfl,hb,(hk g rfl).trans hgg,rest⟩
def rowB (v:Value):List Nat:=v.ownBlock.toList
theorem mem_rowB {v:Value} {g:Nat}:g∈rowB v ↔ v.ownBlock=some g:=by unfold rowB;simp
structure Rows {α β:Type} (O:World->α->β->List Nat->Prop) (cs:β->Array Value) (ty:TypeId) (size:Nat) (w:World) (v:Value) (l:List α) (ys:List β) (Fs:List (List Nat)):Prop where
 side:Side (O w) l ys Fs
 row:w.ownsRow 0 ty size v l.length (ys.flatMap fun y=>(cs y).toList)
def Keeper {α β:Type} (O:World->α->β->List Nat->Prop):Prop:=∀ (w w':World) (a:α) (b:β) (F:List Nat),O w a b F->(∀ c∈F,w'.heap[c]? =w.heap[c]?)->O w' a b F
section
variable {α β:Type} {O:World->α->β->List Nat->Prop} {cs:β->Array Value} {ty:TypeId} {size:Nat}
theorem Rows.nil (O:World->α->β->List Nat->Prop) (cs:β->Array Value) (ty:TypeId) (size:Nat) (w:World):Rows O cs ty size w (.slice none 0 0) [] [] []:=⟨.nil _,World.ownsRow_nil _ _ _ _⟩
theorem Rows.kept (hO:Keeper O) {w w':World} {v:Value} {l:List α} {ys:List β} {Fs:List (List Nat)} (h:Rows O cs ty size w v l ys Fs) (hk:∀ b∈rowB v++Fs.flatten,w'.heap[b]? =w.heap[b]?):Rows O cs ty size w' v l ys Fs:=
 ⟨h.side.mono (fun t y F _ hF hy=>hO _ _ _ _ _ hy (fun c hc=>hk c (List.mem_append_right _ (List.mem_flatten.2 ⟨F,hF,hc⟩)))),ownsRow_kept h.row (fun g hg=>hk g (List.mem_append_left _ (mem_rowB.2 hg)))⟩
theorem Rows.away (hO:Keeper O) {p B:Nat} {w w':World} {v:Value} {l:List α} {ys:List β} {Fs:List (List Nat)} (h:Rows O cs ty size w v l ys Fs) (ha:Away p B w w') (hk:∀ b∈rowB v++Fs.flatten,b<B/\b≠p):Rows O cs ty size w' v l ys Fs:=
 h.kept hO (fun b hb=>ha.block b (hk b hb).1 (hk b hb).2)
theorem Rows.step (hO:Keeper O) {w w':World} {F0:List Nat} {lo:Nat} {v:Value} {l:List α} {ys:List β} {Fs:List (List Nat)} {t:α} {y:β} {G:List Nat} {g cap:Nat}
 (h:Rows O cs ty size w v l ys Fs) (hF:From F0 lo w.heap.size (rowB v++Fs.flatten)) (hy:O w t y G) (hG:From F0 lo w.heap.size (rowB v++Fs.flatten++G)) (hlo:lo<=w.heap.size)
 (hold:∀ b∈F0,b<w.heap.size)
 (hown:w'.ownsRow 0 ty size (.slice (some ⟨g,0,none⟩) (l.length+1) cap) (l.length+1) ((ys.flatMap fun y=>(cs y).toList)++(cs y).toList)) (hg:w.grownBy w' v.ownBlock) (hat:v.ownBlock=some g\/g=w.heap.size) (hlt:g<w'.heap.size):
 Rows O cs ty size w' (.slice (some ⟨g,0,none⟩) (l.length+1) cap) (l++[t]) (ys++[y]) (Fs++[G])/\From F0 lo w'.heap.size (rowB (.slice (some ⟨g,0,none⟩) (l.length+1) cap)++(Fs++[G]).flatten):=by
 have hsz:=hg.size;have hall:∀ b∈rowB v++Fs.flatten++G,b<w.heap.size:=fun b hb=>by
  rcases hG.mem b hb with h|h
  ·exact hold b h
  ·exact h.2
 have hnd:=List.nodup_append.1 hG.nodup;have hnr:=List.nodup_append.1 hF.nodup;have hne:∀ b∈Fs.flatten++G,some b≠v.ownBlock:=by
  intro b hb e;rcases List.mem_append.1 hb with hb|hb
  ·exact hnr.2.2 b (mem_rowB.2 e.symm) b hb rfl
  ·exact hnd.2.2 b (List.mem_append_left _ (mem_rowB.2 e.symm)) b hb rfl
 have hkeep:∀ b∈Fs.flatten++G,w'.heap[b]? =w.heap[b]? :=fun b hb=>by
  refine hg.block b ?_ (hne b hb);refine hall b ?_;rcases List.mem_append.1 hb with hb|hb
  ·simp [hb]
  ·simp [hb]
 refine ⟨⟨(h.side.mono (fun t y F _ hF hy=>hO _ _ _ _ _ hy (fun c hc=>hkeep c (List.mem_append_left _ (List.mem_flatten.2 ⟨F,hF,hc⟩))))).snoc (hO _ _ _ _ _ hy (fun c hc=>hkeep c (List.mem_append_right _ hc))),?_⟩,?_,?_⟩
 ·rw [List.length_append,List.length_singleton,List.flatMap_append]
  simpa using hown
 ·have e:(Fs++[G]).flatten=Fs.flatten++G:=by simp
  rw [e]
  show ([g]++(Fs.flatten++G)).Nodup
  rw [List.nodup_append];refine ⟨by simp,?_,?_⟩
  ·rw [List.nodup_append]
   refine ⟨hnr.2.1,hnd.2.1,fun a ha b hb e=>?_⟩;exact hnd.2.2 a (by simp [ha]) b hb e
  ·intro a ha b hb e
   have ha:a=g:=by simpa using ha
   subst ha;subst e;rcases hat with hat|hat
   ·exact hne _ hb hat.symm
   ·have:=hall a (by rcases List.mem_append.1 hb with hb|hb<;>simp [hb])
    omega
 ·intro b hb
  have e:(Fs++[G]).flatten=Fs.flatten++G:=by simp
  rw [e] at hb;have hb:b∈[g]++(Fs.flatten++G):=hb;have old:∀ b∈rowB v++Fs.flatten++G,b∈F0\/(lo<=b/\b<w'.heap.size):=fun b hb=>(hG.mem b hb).imp id (fun h=>⟨h.1,by omega⟩);rcases List.mem_append.1 hb with hb|hb
  ·have hb:b=g:=by simpa using hb
   subst hb;rcases hat with hat|hat
   ·exact old _ (by simp [mem_rowB.2 hat])
   ·exact .inr ⟨by omega,hlt⟩
  ·exact old b (by rcases List.mem_append.1 hb with hb|hb<;>simp [hb])
end
theorem keeper_own:Keeper Own:=fun _ _ t x F h hk=>Own.kept t x F h hk
theorem keeper_ownU:Keeper OwnU:=fun _ _ _ _ _ h hk=>h.kept hk
abbrev Kids (w:World) (v:Value) (l:List T) (ys:List TV) (Fs:List (List Nat)):Prop:=Rows Own TV.cells 28 6 w v l ys Fs
abbrev Us (w:World) (v:Value) (l:List U) (xs:List UV) (Fs:List (List Nat)):Prop:=Rows OwnU UV.cells 145 9 w v l xs Fs
theorem Rows.ownR {w:World} {A:Option Addr} {len cap:Nat} {l:List T} {ys:List TV} {Fs:List (List Nat)} (h:Kids w (.slice A len cap) l ys Fs):OwnR w A len cap l (rowB (.slice A len cap)++Fs.flatten):=by
 obtain ⟨hs,hr⟩:=h;have hr':=hr;obtain ⟨hl,⟨e,h0⟩|⟨g,cap',cur,e,hg,hcur,hn,hc,hsz,ht⟩⟩:=hr
 ·cases e
  have hl0:l=[]:=List.eq_nil_of_length_eq_zero h0;subst hl0;have hF:Fs=[]:=List.eq_nil_of_length_eq_zero hs.lf;subst hF;exact ⟨rfl,ys,[],hs,.inl ⟨rfl,rfl,rfl⟩⟩
 ·cases e
  refine ⟨rfl,ys,Fs,hs,.inr ⟨g,cur,rfl,rfl,hcur,hn,hc,Nat.le_of_eq hsz.symm,fun j u hu=>?_⟩⟩;have hj:=(qn.1 hu).1;have hj:j<l.length*6:=by
   have hl:(tcells ys).length=l.length*6:=hl;omega
  exact (hr'.cellAt j hj).trans hu
theorem own_mk {w:World} {k n:Int} {s:ByteArray} {sh a:List Int} {l:List T} {x:TV} {F1 F2 F3:List Nat} (hw:Wee x) (hk:x.kind=k) (hs:x.text=s) (hn:x.n=n) (h1:OwnI w 3 x.sa x.sl x.sc sh F1) (h2:OwnI w 2 x.aa x.al x.ac a F2) (h3:OwnR w x.ka x.kl x.kc l F3):
 Own w (.mk k s n sh a l) x (F1++F2++F3):=by
 have hl:=h3.1;obtain ⟨G,H,rfl,hB,hL⟩:=h3.split;simp only [Own];exact ⟨hw,hk,hs,hn,hl,F1,F2,G,H,by simp,h1,h2,hB,hL⟩
theorem ownI_nil (w:World) (ty:TypeId):OwnI w ty none 0 0 [] []:=⟨rfl,.inl ⟨rfl,rfl,rfl⟩,fun b e=>by cases e⟩
def nodeV (k n:Int) (s:ByteArray) (A:Option Addr) (len cap:Nat):TV:=⟨k,s,n,none,0,0,none,0,0,A,len,cap⟩
theorem own_node {w:World} {k n:Int} {s:ByteArray} {l:List T} {A:Option Addr} {len cap:Nat} {F:List Nat} (h3:OwnR w A len cap l F) (h0:-9223372036854775808<=k) (h1:k<=9223372036854775807) (h2:-9223372036854775808<=n) (h4:n<=9223372036854775807) (hs:s.size<=140737488355328) (hl:l.length<=2199023255552) (hc:len<=cap) (hcm:cap<=maxLen):
 Own w (.mk k s n [] [] l) (nodeV k n s A len cap) F:=by
 have e:=h3.1;have:=own_mk (x:=nodeV k n s A len cap) (k:=k) (n:=n) (s:=s) (sh:=[]) (a:=[]) ⟨h0,h1,h2,h4,hs,qa _,qa _,hc,Nat.zero_le _,Nat.zero_le _,by show len<=_;omega,Nat.zero_le _,Nat.zero_le _,hcm⟩ rfl rfl rfl (ownI_nil w 3) (ownI_nil w 2) h3;simpa using this
end Pz
end Go.Proofs.YtimcmghhbdfjfaaGreatDoor
