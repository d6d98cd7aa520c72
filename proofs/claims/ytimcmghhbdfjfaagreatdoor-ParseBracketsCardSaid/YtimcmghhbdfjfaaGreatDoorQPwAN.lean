/- Package parse. -/
import Derived.Test.YtimcmghhbdfjfaaGreatDoorQPwAH
import Derived.Test.YtimcmghhbdfjfaaGreatDoorQTermD
set_option linter.unusedVariables false
set_option linter.unusedSimpArgs false
set_option maxRecDepth 100000
set_option maxHeartbeats 800000
namespace Go.Proofs.YtimcmghhbdfjfaaGreatDoor
open Go.RowKit
namespace Pz
theorem neS_nil (w:World):(binOp .neq 26 (.slice none 0 0) (.slice none 0 0)).run Tryz.prog w=.ok (.bool false) w:=by kernel_rfl
theorem neS_some (a:Addr) (l c:Nat) (w:World):(binOp .neq 26 (.slice (some a) l c) (.slice none 0 0)).run Tryz.prog w=.ok (.bool true) w:=by kernel_rfl
theorem OwnU.neS {w:World} {u:U} {x:UV} {F:List Nat} (h:OwnU w u x F) (W:World):(binOp .neq 26 (.slice x.ga x.gl x.gc) (.slice none 0 0)).run Tryz.prog W=.ok (.bool u.gerund.isSome) W:=by
 obtain ⟨-,h2,h3,-,-⟩:=h.flags;cases hg:u.gerund with
 |none=>
  have hga:=h2.2 hg;obtain ⟨e1,e2⟩:=h3 hga;rw [hga,e1,e2];exact neS_nil W
 |some l=>
  cases hga:x.ga with
  |none=>have:=h2.1 hga;rw [hg] at this;cases this
  |some a=>exact neS_some a _ _ W
structure Lo (s:PS) (w:World) (rb ub:Nat):Prop where
 pb:s.pb<ub
 wb:s.ws≠[]->s.wb<ub
 g1:2<ub
 g2:5<ub
 rb:rb<ub
 sz:w.heap.size<=ub
theorem Start.lo {s:PS} {w:World} {n o rb:Nat} {cs:Array Value} {W:World} (h:Start s w n o cs rb W) {ub:Nat} (hu:W.heap.size<=ub):Lo s w rb ub:=by
 have h1:=h.at_.lt;have h2:=h.at_.vars.lt;have h3:=h.box.lt;have h4:=h.away.size;exact ⟨by omega,fun e=>by have:=h.at_.wlt e;omega,by omega,by omega,by omega,by omega⟩
theorem _root_.Go.Proofs.YtimcmghhbdfjfaaGreatDoor.PAt.under {w w':World} {s:PS} {n o B:Nat} (h:PAt w s n o) (hb:Below B w w') (h1:s.pb<B) (h2:s.ws≠[]->s.wb<B) (h3:2<B) (h4:5<B):PAt w' s n o:=
 ⟨h.ok,(cell_of_heap (hb.block _ h1)).trans h.c0,(cell_of_heap (hb.block _ h1)).trans h.c1,(cell_of_heap (hb.block _ h1)).trans h.c2,(cell_of_heap (hb.block _ h1)).trans h.c3,fun o=>(frozen_of_heap (hb.block _ h1)).trans (h.fz o),fun e=>by have:=h.wlt e;have:=hb.size;omega,h.words.kept (fun e=>hb.block _ (h2 e)),h.vars.kept (hb.block _ h3) (hb.block _ h4)⟩
theorem Start.under {s:PS} {w:World} {n o rb ub:Nat} {cs:Array Value} {W W':World} (h:Start s w n o cs rb W) (L:Lo s w rb ub) (hb:Below ub W W'):Start s w n o cs rb W':=
 ⟨h.at_.under hb L.pb L.wb L.g1 L.g2,h.box.kept (hb.block _ L.rb) hb.size,h.away.trans ((Away.of_below hb).mono L.sz),h.rb0,h.rb2,h.rb3⟩
theorem Tm.set {s:PS} {F:List Nat} {lo hi:Nat} {w:World} {t:T} {y:TV} {G:List Nat} (h:Tm s F lo hi w t y G) {q:Addr} (hq:q.block ∉ G) (v:Value):Tm s F lo hi (w.setCell q v) t y G:=
 ⟨own_set h.own hq v,h.from_,by simpa [World.setCell] using h.hi_,h.np,h.le,h.old⟩
theorem _root_.Go.Proofs.YtimcmghhbdfjfaaGreatDoor.From.into {lo hi lo2 hi2:Nat} {G G2:List Nat} (h:From [] lo hi G) (k:From G lo2 hi2 G2) (h1:lo<=lo2) (h2:hi<=hi2):From [] lo hi2 G2:=
 ⟨k.nodup,fun b hb=>by
  rcases k.mem b hb with hb|hb
  ·rcases h.mem b hb with hb|hb
   ·cases hb
   ·exact .inr ⟨hb.1,by omega⟩
  ·exact .inr ⟨by omega,hb.2⟩⟩
theorem Boxd.put {w:World} {b:Nat} {cs:Array Value} (h:Boxd w b cs) (k:Nat) (u:Value) (hk:k<cs.size):Boxd (w.setCell ⟨b,k,none⟩ u) b (cs.setIfInBounds k u):=by
 refine h.set k u (by simp [hk]) (fun i x hx=>?_);rw [Array.getElem?_setIfInBounds] at hx;by_cases hi:i=k
 ·subst hi;simp [hk] at hx;simp [hx]
 ·rw [if_neg (fun e=>hi e.symm)] at hx;rw [if_neg hi];exact hx
theorem Boxd.nine {w:World} {b:Nat} {a0 a1 a2 a3 a4 a5 a6 a7 a8:Value} (h:Boxd w b #[a0,a1,a2,a3,a4,a5,a6,a7,a8]) (v0 v1 v2 v3 v4 v5 v6 v7 v8:Value):
 Boxd (((((((((w.setCell ⟨b,0,none⟩ v0).setCell ⟨b,1,none⟩ v1).setCell ⟨b,2,none⟩ v2).setCell ⟨b,3,none⟩ v3).setCell ⟨b,4,none⟩ v4).setCell ⟨b,5,none⟩ v5).setCell ⟨b,6,none⟩ v6).setCell ⟨b,7,none⟩ v7).setCell ⟨b,8,none⟩ v8) b #[v0,v1,v2,v3,v4,v5,v6,v7,v8]:=by
 have:=((((((((h.put 0 v0 (by simp)).put 1 v1 (by simp)).put 2 v2 (by simp)).put 3 v3 (by simp)).put 4 v4 (by simp)).put 5 v5 (by simp)).put 6 v6 (by simp)).put 7 v7 (by simp)).put 8 v8 (by simp);simpa using this
theorem below_nine {w:World} {b B:Nat} (hB:B<=b) (v0 v1 v2 v3 v4 v5 v6 v7 v8:Value):
 Below B w (((((((((w.setCell ⟨b,0,none⟩ v0).setCell ⟨b,1,none⟩ v1).setCell ⟨b,2,none⟩ v2).setCell ⟨b,3,none⟩ v3).setCell ⟨b,4,none⟩ v4).setCell ⟨b,5,none⟩ v5).setCell ⟨b,6,none⟩ v6).setCell ⟨b,7,none⟩ v7).setCell ⟨b,8,none⟩ v8):=
 (((((((((qb B w).setCell hB v0).setCell hB v1).setCell hB v2).setCell hB v3).setCell hB v4).setCell hB v5).setCell hB v6).setCell hB v7).setCell hB v8
theorem unit_stored {s:PS} {w w9:World} {n o rb ub lo hi lo2 hi2:Nat} {at_:Int} {x:UV} {G G2:List Nat} {t:T} {y:TV} (S:Start s w n o zeroU rb w9) (X:Bx s w9 ub x.cells) (L:Lo s w rb ub) (T:Tm s G lo2 hi2 w9 t y G2)
 (hG:From [] lo hi G) (hu:ub ∉ G) (hul:ub<lo2) (h1:lo<=lo2) (h2:hi<=hi2) (w':World)
 (hw:w'=(((((((((w9.setCell ⟨ub,0,none⟩ (.int .i64 y.kind)).setCell ⟨ub,1,none⟩ (.string y.text)).setCell ⟨ub,2,none⟩ (.int .i64 y.n)).setCell ⟨ub,3,none⟩ (.slice y.sa y.sl y.sc)).setCell ⟨ub,4,none⟩ (.slice y.aa y.al y.ac)).setCell ⟨ub,5,none⟩ (.slice y.ka y.kl y.kc)).setCell ⟨ub,6,none⟩ (.slice none 0 0)).setCell ⟨ub,7,none⟩ (.bool false)).setCell ⟨ub,8,none⟩ (.int .i64 at_))):
 Start s w n o zeroU rb w'/\Bx s w' ub (unitTV y at_).cells/\Un s [] lo hi2 w' ⟨t,none,false,at_⟩ (unitTV y at_) G2/\ub ∉ G2:=by
 have hb:=below_nine (w:=w9) (b:=ub) (qa _) (.int .i64 y.kind) (.string y.text) (.int .i64 y.n) (.slice y.sa y.sl y.sc) (.slice y.aa y.al y.ac) (.slice y.ka y.kl y.kc) (.slice none 0 0) (.bool false) (.int .i64 at_);have hX:=Boxd.nine X.box (.int .i64 y.kind) (.string y.text) (.int .i64 y.n) (.slice y.sa y.sl y.sc) (.slice y.aa y.al y.ac) (.slice y.ka y.kl y.kc) (.slice none 0 0) (.bool false) (.int .i64 at_);have hu2:=T.from_.not_mem hu hul;have hT:=((((((((T.set (q:=⟨ub,0,none⟩) hu2 (.int .i64 y.kind)).set (q:=⟨ub,1,none⟩) hu2 (.string y.text)).set (q:=⟨ub,2,none⟩) hu2 (.int .i64 y.n)).set (q:=⟨ub,3,none⟩) hu2 (.slice y.sa y.sl y.sc)).set (q:=⟨ub,4,none⟩) hu2 (.slice y.aa y.al y.ac)).set (q:=⟨ub,5,none⟩) hu2 (.slice y.ka y.kl y.kc)).set (q:=⟨ub,6,none⟩) hu2 (.slice none 0 0)).set (q:=⟨ub,7,none⟩) hu2 (.bool false)).set (q:=⟨ub,8,none⟩) hu2 (.int .i64 at_);rw [<-hw] at hb hX hT;refine ⟨S.under L hb,⟨hX,X.n1,X.n2⟩,⟨ownU_term hT.own at_,hG.into hT.from_ h1 h2,hT.hi_,hT.np,by have:=hT.le;omega,fun b hb=>by cases hb⟩,hu2⟩
structure ULoop (s:PS) (w:World) (o rb ub:Nat) (at_:Int) (R0:R (U × Nat)) (f n:Nat) (u:U) (x:UV) (wr:World):Prop where
 start:Start s w n o zeroU rb wr
 box:Bx s wr ub x.cells
 un:∃ lo hi G,Un s [] lo hi wr u x G/\rb<lo/\ub ∉ G/\lo<=ub+1
 lo:Lo s w rb ub
 eq:∃ g,g<=f/\need s.ws n 2<=g/\behindU s.ws s.e g at_ n o u=R0
 len:n<=s.ws.length
theorem con_len {t:List UInt8} (h:t∈conL):t.length<=4:=by
 simp only [conL,List.mem_cons,List.not_mem_nil,or_false] at h;rcases h with rfl|rfl|rfl|rfl|rfl|rfl|rfl|rfl|rfl|rfl|rfl|rfl|rfl|rfl<;>decide
theorem adv_len {t:List UInt8} (h:t∈advL):t.length<=maxLen:=by
 simp only [advL,List.mem_cons,List.not_mem_nil,or_false] at h;unfold maxLen;rcases h with rfl|rfl|rfl|rfl<;>decide
def nextOf (pb:Nat) (w:World):Nat:=((w.cell? ⟨pb,1,none⟩).map fun v=>(intOf v).toNat).getD 0
theorem _root_.Go.Proofs.YtimcmghhbdfjfaaGreatDoor.PAt.nextOf {w:World} {s:PS} {n o:Nat} (h:PAt w s n o):nextOf s.pb w=n:=by
 unfold Pz.nextOf;rw [h.c1];simp [intOf]
end Pz
open Go.RowKit
namespace Pz
structure Nd (F:List Nat) (lo:Nat) (w:World) (t:T) (y:TV) (G:List Nat):Prop where
 own:Own w t y G
 from_:From F lo w.heap.size G
theorem Nd.later {F:List Nat} {lo:Nat} {w w':World} {t:T} {y:TV} {G:List Nat} (h:Nd F lo w t y G) (hb:Below w.heap.size w w'):Nd F lo w' t y G:=
 ⟨Own.kept _ _ _ h.own (fun b hb'=>hb.block b (own_lt _ _ _ h.own b hb')),h.from_.mono (qa _) hb.size⟩
theorem Nd.set {F:List Nat} {lo:Nat} {w:World} {t:T} {y:TV} {G:List Nat} (h:Nd F lo w t y G) {q:Addr} (hq:q.block ∉ G) (v:Value):Nd F lo (w.setCell q v) t y G:=
 ⟨own_set h.own hq v,by have:=h.from_;simpa [World.setCell] using this⟩
theorem Nd.node {F:List Nat} {lo:Nat} {w:World} {k:Int} {l:List T} {ys:List TV} {Gs:List (List Nat)} (hk:0<=k/\k<=100) (hS:Side (Own w) l ys Gs) (hF:From F lo w.heap.size Gs.flatten) (hlo:lo<=w.heap.size) (hold:∀ b∈F,b<w.heap.size) (hl:l.length<=1048576):
 Nd F lo (w.alloc (.cells ⟨tcells ys⟩ 28)) (made k l) (nodeV k 0 ⟨#[]⟩ (some ⟨w.heap.size,0,none⟩) l.length l.length) (w.heap.size::Gs.flatten):=by
 have hR:=ownR_new hS (by omega);refine ⟨?_,?_⟩
 ·have:=own_node (k:=k) (n:=0) (s:=⟨#[]⟩) hR (by omega) (by omega) (by omega) (by omega) (by decide) (by omega) (qa _) (by unfold maxLen;omega)
  simpa [made] using this
 ·rw [heap_new_size]
  exact hF.cons (qa _) (Nat.lt_succ_self _) hlo hold
theorem _root_.Go.Proofs.YtimcmghhbdfjfaaGreatDoor.From.join {F:List Nat} {lo hi:Nat} {G H:List Nat} (h:From F lo hi G) (k:From F lo hi H) (hd:∀ b∈G,b ∉ H):From F lo hi (G++H):=
 ⟨List.nodup_append.2 ⟨h.nodup,k.nodup,fun a ha b hb e=>hd a ha (e▸hb)⟩,fun b hb=>by
  rcases List.mem_append.1 hb with hb|hb
  ·exact h.mem b hb
  ·exact k.mem b hb⟩
theorem us_cell {w:World} {v:Value} {l:List U} {xs:List UV} {Fs:List (List Nat)} (h:Us w v l xs Fs) {i:Nat} {u:U} (hu:l[i]? =some u):
 ∃ x G g cap,xs[i]? =some x/\Fs[i]? =some G/\OwnU w u x G/\v=.slice (some ⟨g,0,none⟩) l.length cap/\l.length<=cap/\cap<=maxLen/\g<w.heap.size/\(∀ (j:Nat) (c:Value),x.cells[j]? =some c->w.cell? ⟨g,i*9+j,none⟩=some c):=by
 obtain ⟨x,G,hx,hG,hO⟩:=h.side.at_ hu;have hi:=(qn.1 hu).1;have hr:=h.row;obtain ⟨g,cap,e,_,hg⟩:=hr.form (by omega);have hcap:l.length<=cap/\cap<=maxLen:=by
  rcases hr.2 with ⟨e2,_⟩|⟨g',cap',cur,e2,_,_,h4,h5,_⟩
  ·rw [e] at e2;cases e2
  ·rw [e] at e2;cases e2;exact ⟨h4,h5⟩
 refine ⟨x,G,g,cap,hx,hG,hO,e,hcap.1,hcap.2,hg,fun j c hc=>?_⟩;rw [e] at hr;have hj:j<9:=by have:=(Array.getElem?_eq_some_iff.1 hc).1;simpa [UV.cells] using this
 rw [hr.cellAt (i*9+j) (by omega)];exact ucells_at xs i x hx j c hc
theorem us_term {w:World} {v:Value} {l:List U} {xs:List UV} {Fs:List (List Nat)} (h:Us w v l xs Fs) {i:Nat} {u:U} {x:UV} {G:List Nat} (hu:l[i]? =some u) (hx:xs[i]? =some x) (hG:Fs[i]? =some G):∃ G1 G2,G=G1++G2/\Own w u.t x.t G1:=by
 have hO:=h.side.own i u x G hu hx hG;obtain ⟨⟨F1,F2,rfl,h1,h2⟩,h3,h4⟩:=hO;exact ⟨F1,F2,rfl,h1⟩
theorem flatten_take_mem {Fs:List (List Nat)} {i k:Nat} {G:List Nat} (hG:Fs[i]? =some G) (hi:i<k) {b:Nat} (hb:b∈G):b∈(Fs.take k).flatten:=
 List.mem_flatten.2 ⟨G,List.mem_of_getElem? (i:=i) (by rw [List.getElem?_take,if_pos hi];exact hG),hb⟩
theorem flatten_take_sub {Fs:List (List Nat)} {i k:Nat} (hi:i<=k) {b:Nat} (hb:b∈(Fs.take i).flatten):b∈(Fs.take k).flatten:=by
 obtain ⟨G,hG,hbG⟩:=List.mem_flatten.1 hb;obtain ⟨j,hj⟩:=List.getElem?_of_mem hG;rw [List.getElem?_take] at hj;split at hj
 ·exact flatten_take_mem hj (by omega) hbG
 ·cases hj
theorem mem_of_take {Fs:List (List Nat)} {k:Nat} {b:Nat} (hb:b∈(Fs.take k).flatten):b∈Fs.flatten:=by
 obtain ⟨G,hG,hbG⟩:=List.mem_flatten.1 hb;exact List.mem_flatten.2 ⟨G,List.mem_of_mem_take hG,hbG⟩
theorem apart_take {Fs:List (List Nat)} (h:Fs.flatten.Nodup) {i k:Nat} {G:List Nat} (hG:Fs[i]? =some G) (hk:k<=i) {b:Nat} (hb:b∈G):b ∉ (Fs.take k).flatten:=by
 intro hm;obtain ⟨H,hH,hbH⟩:=List.mem_flatten.1 hm;obtain ⟨j,hj⟩:=List.getElem?_of_mem hH;rw [List.getElem?_take] at hj;split at hj
 ·exact flat_apart h hj hG (by omega) b hbH hb
 ·cases hj
end Pz
open Go.RowKit
namespace Pz
def PF (ty:TypeId) (F:List Nat) (w:World) (r:R T) (e:Ending) (w':World):Prop:=
 match r with
 |.ok t=>∃ y G,e=.returned y.val/\Own w' t y G/\From F w.heap.size w'.heap.size G/\Below w.heap.size w w'
 |.bad c p=>e=.panicked [faultEntry ty c p]/\Below w.heap.size w w'
structure SL (Fs:List (List Nat)) (w:World) (tb k:Nat) (t:T) (y:TV) (wr:World):Prop where
 below:Below w.heap.size w wr
 rbox:Boxd wr w.heap.size zeroT
 tbox:Boxd wr tb y.cells
 nd:∃ G,Nd Fs.flatten w.heap.size wr t y G/\(∀ b∈G,b ∉ (Fs.take k).flatten)/\tb ∉ G/\w.heap.size ∉ G
 tb0:w.heap.size<tb
 tb1:tb<wr.heap.size
theorem wrap_nat {n:Nat} (h:n<=1099511627776):wrap64 (n:Int)=n:=by unfold wrap64;omega
theorem Boxd.six {w:World} {b:Nat} {a0 a1 a2 a3 a4 a5:Value} (h:Boxd w b #[a0,a1,a2,a3,a4,a5]) (v0 v1 v2 v3 v4 v5:Value):
 Boxd ((((((w.setCell ⟨b,0,none⟩ v0).setCell ⟨b,1,none⟩ v1).setCell ⟨b,2,none⟩ v2).setCell ⟨b,3,none⟩ v3).setCell ⟨b,4,none⟩ v4).setCell ⟨b,5,none⟩ v5) b #[v0,v1,v2,v3,v4,v5]:=by
 have:=(((((h.put 0 v0 (by simp)).put 1 v1 (by simp)).put 2 v2 (by simp)).put 3 v3 (by simp)).put 4 v4 (by simp)).put 5 v5 (by simp);simpa using this
theorem below_six {w:World} {b B:Nat} (hB:B<=b) (v0 v1 v2 v3 v4 v5:Value):
 Below B w ((((((w.setCell ⟨b,0,none⟩ v0).setCell ⟨b,1,none⟩ v1).setCell ⟨b,2,none⟩ v2).setCell ⟨b,3,none⟩ v3).setCell ⟨b,4,none⟩ v4).setCell ⟨b,5,none⟩ v5):=
 (((((qb B w).setCell hB v0).setCell hB v1).setCell hB v2).setCell hB v3).setCell hB v4|>.setCell hB v5
theorem SL.next {Fs:List (List Nat)} {w:World} {tb k k':Nat} {t t9:T} {y y9:TV} {wr w9:World} {G9:List Nat} (h:SL Fs w tb k t y wr) (hb:Below wr.heap.size wr w9) (hN:Nd Fs.flatten w.heap.size w9 t9 y9 G9) (hk:∀ b∈G9,b ∉ (Fs.take k').flatten) (htb:tb ∉ G9) (hrb:w.heap.size ∉ G9):
 SL Fs w tb k' t9 y9 ((((((w9.setCell ⟨tb,0,none⟩ (.int .i64 y9.kind)).setCell ⟨tb,1,none⟩ (.string y9.text)).setCell ⟨tb,2,none⟩ (.int .i64 y9.n)).setCell ⟨tb,3,none⟩ (.slice y9.sa y9.sl y9.sc)).setCell ⟨tb,4,none⟩ (.slice y9.aa y9.al y9.ac)).setCell ⟨tb,5,none⟩ (.slice y9.ka y9.kl y9.kc)):=by
 have h0:=h.tb0;have hs:=below_six (w:=w9) (b:=tb) (qa _) (.int .i64 y9.kind) (.string y9.text) (.int .i64 y9.n) (.slice y9.sa y9.sl y9.sc) (.slice y9.aa y9.al y9.ac) (.slice y9.ka y9.kl y9.kc);have hX:=Boxd.six (h.tbox.later hb) (.int .i64 y9.kind) (.string y9.text) (.int .i64 y9.n) (.slice y9.sa y9.sl y9.sc) (.slice y9.aa y9.al y9.ac) (.slice y9.ka y9.kl y9.kc);have hN':=(((((hN.set (q:=⟨tb,0,none⟩) htb (.int .i64 y9.kind)).set (q:=⟨tb,1,none⟩) htb (.string y9.text)).set (q:=⟨tb,2,none⟩) htb (.int .i64 y9.n)).set (q:=⟨tb,3,none⟩) htb (.slice y9.sa y9.sl y9.sc)).set (q:=⟨tb,4,none⟩) htb (.slice y9.aa y9.al y9.ac)).set (q:=⟨tb,5,none⟩) htb (.slice y9.ka y9.kl y9.kc);have hsz:=hs.size;exact ⟨(Below_next h.below hb).trans (hs.mono (Nat.le_of_lt h0)),(h.rbox.later hb).kept (hs.block _ h0) hs.size,hX,⟨G9,hN',hk,htb,hrb⟩,h0,Nat.lt_of_lt_of_le h.tb1 (qi hb.size hsz)⟩
theorem SL.later {Fs:List (List Nat)} {w:World} {tb k:Nat} {t:T} {y:TV} {wr w9:World} (h:SL Fs w tb k t y wr) (hb:Below wr.heap.size wr w9):SL Fs w tb k t y w9:=by
 obtain ⟨G,h1,h2,h3,h4⟩:=h.nd;exact ⟨Below_next h.below hb,h.rbox.later hb,h.tbox.later hb,⟨G,h1.later hb,h2,h3,h4⟩,h.tb0,Nat.lt_of_lt_of_le h.tb1 hb.size⟩
theorem from_piece {Fs:List (List Nat)} (hnd:Fs.flatten.Nodup) {i:Nat} {G1 G2:List Nat} (hG:Fs[i]? =some (G1++G2)) (lo hi:Nat):From Fs.flatten lo hi G1:=
 ⟨(List.nodup_append.1 (flat_nodup hnd hG)).1,fun b hb=>.inl (mem_flat hG (by simp [hb]))⟩
section
variable {v:Value} {l:List U} {xs:List UV} {Fs:List (List Nat)} {w:World} (h:Us w v l xs Fs) (hnd:Fs.flatten.Nodup) (hold:∀ b∈Fs.flatten,b<w.heap.size)
include h hnd hold
theorem SL.two {tb j:Nat} {t:T} {y:TV} {wr:World} (k:Int) (hk:0<=k/\k<=100) (hs:SL Fs w tb (j+1) t y wr) {u:U} {x:UV} {G:List Nat} (hu:l[j]? =some u) (hx:xs[j]? =some x) (hG:Fs[j]? =some G):
 ∃ G9,Nd Fs.flatten w.heap.size (wr.alloc (.cells ⟨tcells [x.t,y]⟩ 28)) (made k [u.t,t]) (nodeV k 0 ⟨#[]⟩ (some ⟨wr.heap.size,0,none⟩) 2 2) G9/\(∀ b∈G9,b ∉ (Fs.take j).flatten)/\tb ∉ G9/\w.heap.size ∉ G9:=by
 obtain ⟨G1,G2,rfl,hO⟩:=us_term h hu hx hG;obtain ⟨Gt,hN,ha,hb,hc⟩:=hs.nd;have hsz:=hs.below.size;have h1:=hs.tb1;have h0:=hs.tb0;have hO':Own wr u.t x.t G1:=Own.kept _ _ _ hO (fun b hb'=>hs.below.block b (own_lt _ _ _ hO b hb'));have hlt:∀ b∈G1,b<w.heap.size:=fun b hb=>own_lt _ _ _ hO b hb;have hd:∀ b∈G1,b ∉ Gt:=fun b hb hbt=>ha b hbt (flatten_take_mem hG (Nat.lt_succ_self j) (by simp [hb]));have hF:=(from_piece hnd hG w.heap.size wr.heap.size).join hN.from_ hd;have hnode:=Nd.node hk (Side.cons hO' (Side.one hN.own)) (by simpa using hF) hsz (fun b hb=>by have:=hold b hb;omega) (by simp);refine ⟨_,hnode,fun b hb=>?_,fun hb=>?_,fun hb=>?_⟩
 ·have hb:b=wr.heap.size\/b∈G1\/b∈Gt:=by simpa using hb
  rcases hb with rfl|hb|hb
  ·intro hm;have:=hold _ (mem_of_take hm);omega
  ·exact apart_take hnd hG (qa j) (by simp [hb])
  ·exact fun hm=>ha b hb (flatten_take_sub (Nat.le_succ j) hm)
 ·have hb':tb=wr.heap.size\/tb∈G1\/tb∈Gt:=by simpa using hb
  rcases hb' with e|e|e
  ·omega
  ·have:=hlt _ e;omega
  ·exact absurd e ‹tb ∉ Gt›
 ·have hb':w.heap.size=wr.heap.size\/w.heap.size∈G1\/w.heap.size∈Gt:=by simpa using hb
  rcases hb' with e|e|e
  ·omega
  ·have:=hlt _ e;omega
  ·exact absurd e hc
theorem SL.three {tb j:Nat} {t:T} {y:TV} {wr:World} (k:Int) (hk:0<=k/\k<=100) (hs:SL Fs w tb (j+2) t y wr) {u u2:U} {x x2:UV} {G H:List Nat} (hu:l[j+1]? =some u) (hx:xs[j+1]? =some x) (hG:Fs[j+1]? =some G) (hu2:l[j]? =some u2) (hx2:xs[j]? =some x2) (hG2:Fs[j]? =some H):
 (∃ G9,Nd Fs.flatten w.heap.size (wr.alloc (.cells ⟨tcells [x.t,x2.t,y]⟩ 28)) (made k [u.t,u2.t,t]) (nodeV k 0 ⟨#[]⟩ (some ⟨wr.heap.size,0,none⟩) 3 3) G9/\(∀ b∈G9,b ∉ (Fs.take j).flatten)/\tb ∉ G9/\w.heap.size ∉ G9)/\
 (∃ G9,Nd Fs.flatten w.heap.size (wr.alloc (.cells ⟨tcells [x2.t,x.t,y]⟩ 28)) (made k [u2.t,u.t,t]) (nodeV k 0 ⟨#[]⟩ (some ⟨wr.heap.size,0,none⟩) 3 3) G9/\(∀ b∈G9,b ∉ (Fs.take j).flatten)/\tb ∉ G9/\w.heap.size ∉ G9):=by
 obtain ⟨G1,G2,rfl,hO⟩:=us_term h hu hx hG;obtain ⟨H1,H2,rfl,hO2⟩:=us_term h hu2 hx2 hG2;obtain ⟨Gt,hN,ha,hbt,hc⟩:=hs.nd;have hsz:=hs.below.size;have h1:=hs.tb1;have h0:=hs.tb0;have hO':Own wr u.t x.t G1:=Own.kept _ _ _ hO (fun b hb'=>hs.below.block b (own_lt _ _ _ hO b hb'));have hO2':Own wr u2.t x2.t H1:=Own.kept _ _ _ hO2 (fun b hb'=>hs.below.block b (own_lt _ _ _ hO2 b hb'));have hlt:∀ b∈G1,b<w.heap.size:=fun b hb=>own_lt _ _ _ hO b hb;have hlt2:∀ b∈H1,b<w.heap.size:=fun b hb=>own_lt _ _ _ hO2 b hb;have hd:∀ b∈G1,b ∉ Gt:=fun b hb hbt=>ha b hbt (flatten_take_mem hG (Nat.lt_succ_self _) (by simp [hb]));have hd2:∀ b∈H1,b ∉ Gt:=fun b hb hbt=>ha b hbt (flatten_take_mem hG2 (by omega) (by simp [hb]));have hd12:∀ b∈G1,b ∉ H1:=fun b hb hh=>apart_take hnd hG (qa (j+1)) (b:=b) (by simp [hb]) (flatten_take_mem hG2 (Nat.lt_succ_self j) (by simp [hh]));have hrest:∀ b,b=wr.heap.size\/b∈G1\/b∈H1\/b∈Gt->b ∉ (Fs.take j).flatten/\b≠tb/\b≠w.heap.size:=fun b hb=>by
  rcases hb with rfl|hb|hb|hb
  ·exact ⟨fun hm=>by have:=hold _ (mem_of_take hm);omega,by omega,by omega⟩
  ·have:=hlt b hb;exact ⟨apart_take hnd hG (by omega) (by simp [hb]),by omega,by omega⟩
  ·have:=hlt2 b hb;exact ⟨apart_take hnd hG2 (qa j) (by simp [hb]),by omega,by omega⟩
  ·exact ⟨fun hm=>ha b hb (flatten_take_sub (by omega) hm),fun e=>hbt (e▸hb),fun e=>hc (e▸hb)⟩
 have f1:=from_piece hnd hG w.heap.size wr.heap.size;have f2:=from_piece hnd hG2 w.heap.size wr.heap.size;have hold':∀ b∈Fs.flatten,b<wr.heap.size:=fun b hb=>by have:=hold b hb;omega
 constructor
 ·have hF:=f1.join (f2.join hN.from_ hd2) (fun b hb hm=>by
   rcases List.mem_append.1 hm with hm|hm
   ·exact hd12 b hb hm
   ·exact hd b hb hm)
  have hnode:=Nd.node hk (Side.cons hO' (Side.cons hO2' (Side.one hN.own))) (by simpa using hF) hsz hold' (by simp);have hm:∀ b,b∈wr.heap.size::[G1,H1,Gt].flatten->b=wr.heap.size\/b∈G1\/b∈H1\/b∈Gt:=fun b hb=>by simpa using hb
  exact ⟨_,hnode,fun b hb=>(hrest b (hm b hb)).1,fun hb=>(hrest _ (hm _ hb)).2.1 rfl,fun hb=>(hrest _ (hm _ hb)).2.2 rfl⟩
 ·have hF:=f2.join (f1.join hN.from_ hd) (fun b hb hm=>by
   rcases List.mem_append.1 hm with hm|hm
   ·exact hd12 b hm hb
   ·exact hd2 b hb hm)
  have hnode:=Nd.node hk (Side.cons hO2' (Side.cons hO' (Side.one hN.own))) (by simpa using hF) hsz hold' (by simp);have hm:∀ b,b∈wr.heap.size::[H1,G1,Gt].flatten->b=wr.heap.size\/b∈G1\/b∈H1\/b∈Gt:=fun b hb=>by
   have hb:b=wr.heap.size\/b∈H1\/b∈G1\/b∈Gt:=by simpa using hb
   rcases hb with h|h|h|h
   ·exact .inl h
   ·exact .inr (.inr (.inl h))
   ·exact .inr (.inl h)
   ·exact .inr (.inr (.inr h))
  exact ⟨_,hnode,fun b hb=>(hrest b (hm b hb)).1,fun hb=>(hrest _ (hm _ hb)).2.1 rfl,fun hb=>(hrest _ (hm _ hb)).2.2 rfl⟩
end
end Pz
open Go.RowKit
namespace Pz
theorem us_cells {w wr:World} {g cap:Nat} {l:List U} {xs:List UV} {Fs:List (List Nat)} (h:Us w (.slice (some ⟨g,0,none⟩) l.length cap) l xs Fs) (hb:Below w.heap.size w wr) {i:Nat} {u:U} (hu:l[i]? =some u):
 ∃ x G,xs[i]? =some x/\Fs[i]? =some G/\OwnU wr u x G/\(∀ (j:Nat) (c:Value),x.cells[j]? =some c->wr.cell? ⟨g,i*9+j,none⟩=some c):=by
 obtain ⟨x,G,g',cap',hx,hG,hO,e,_,_,hg,hc⟩:=us_cell h hu;cases e
 exact ⟨x,G,hx,hG,hO.kept (fun b hb'=>hb.block b (hO.lt b hb')),fun j c hj=>(cell_of_heap (hb.block _ hg)).trans (hc j c hj)⟩
theorem sent_meas {a b:Int} (h:a<b) (h0:0<=b):(intOf (.int .i64 a)+1).toNat<(intOf (.int .i64 b)+1).toNat:=by simp only [intOf];omega
theorem sentence_calls (v:Value) (l:List U) (xs:List UV) (Fs:List (List Nat)) (w:World) (h:Us w v l xs Fs) (hnd:Fs.flatten.Nodup) (hlen:l.length<=1048576) (K:Nat) (hK:l.length=K+1) (u:U) (hu:l[K]? =some u) (hold:∀ b∈Fs.flatten,b<w.heap.size):
 Calls Tryz.prog 105 #[v] w (PF 61 Fs.flatten w (sentenceL l K u.t)):=by
 obtain ⟨x,G,g,cap,hx,hG,hO,rfl,hc1,hc2,hg,hcells⟩:=us_cell h hu;have HH:=hid h;have HND:=hid (And.intro hnd hold);obtain ⟨R0,hR0⟩:∃ R0,sentenceL l K u.t=R0:=⟨_,rfl⟩;rw [hR0];have HR0:=hid hR0;have k0:=hcells 0 (.int .i64 x.t.kind) rfl;have k1:=hcells 1 (.string x.t.text) rfl;have k2:=hcells 2 (.int .i64 x.t.n) rfl;have k3:=hcells 3 (.slice x.t.sa x.t.sl x.t.sc) rfl;have k4:=hcells 4 (.slice x.t.aa x.t.al x.t.ac) rfl;have k5:=hcells 5 (.slice x.t.ka x.t.kl x.t.kc) rfl;have hw1:wrap64 (K:Int)=K:=wrap_nat (by omega);have hw2:wrap64 ((l.length:Int)-1)=K:=by rw [hK];unfold wrap64;omega
 have hw3:wrap64 ((l.length:Int)-2)=(K:Int)-1:=by rw [hK];unfold wrap64;omega
 have hlt:(K:Int)<(l.length:Int):=by omega
 have hlt':K<l.length:=by omega
 have hne1:¬g=w.heap.size:=by omega
 have hne2:¬w.heap.size=g:=by omega
 rw [Nat.add_zero] at k0;obtain ⟨G1,G2,rfl,hO1⟩:=us_term h hu hx hG;have HS:=hid (show SL Fs w (w.heap.size+1) K u.t x.t ((w.alloc (.cells zeroT 28)).alloc (.cells x.t.cells 28)) from
  ⟨((qb _ _).alloc (qa _) _).alloc (by simp) _,(Boxd.new w zeroT 28).alloc _,by
    have:=Boxd.new (w.alloc (.cells zeroT 28)) x.t.cells 28
    rwa [heap_new_size] at this,
    ⟨G1,⟨own_alloc (own_alloc hO1 _) _,from_piece hnd hG _ _⟩,fun b hb=>apart_take hnd hG (qa K) (by simp [hb]),fun hb=>by have:=own_lt _ _ _ hO1 _ hb;omega,fun hb=>by have:=own_lt _ _ _ hO1 _ hb;omega⟩,Nat.lt_succ_self _,by simp⟩)
 have HKl:=hid (And.intro hK hlen);have HG:=hid hg;clear hcells h hc1 hc2 hnd hold hR0 hu hx hG hO hO1;go_enter Tryz.func105,Tryz.ntmps105
 go_wp2_with fail
 clear k0 k1 k2 k3 k4 k5 hw1 hw2 hw3 hlt hlt' hne1 hne2 hK hlen hg
 go_loopw [4] (fun i wr=>∃ (k:Nat) (t:T) (y:TV),k<=K/\i=.int .i64 ((k:Int)-1)/\SL Fs w (w.heap.size+1) k t y wr/\sentenceL l k t=R0) (fun i _=>(intOf i+1).toNat)
 case atStart=>exact ⟨K,_,_,qa _,by congr 1;omega,HS.out,HR0.out⟩
 case round=>
  obtain ⟨w4,hw4⟩:∃ w4,w4=wr:=⟨_,rfl⟩;subst hw4;obtain ⟨k,t,y,hk,rfl,hs,hr⟩:=hrel;have SL4:=hid hs;have t0:=hs.tbox.cell 0 (.int .i64 y.kind) rfl;have t1:=hs.tbox.cell 1 (.string y.text) rfl;have t2:=hs.tbox.cell 2 (.int .i64 y.n) rfl;have t3:=hs.tbox.cell 3 (.slice y.sa y.sl y.sc) rfl;have t4:=hs.tbox.cell 4 (.slice y.aa y.al y.ac) rfl;have t5:=hs.tbox.cell 5 (.slice y.ka y.kl y.kc) rfl;have tf:=hs.tbox.fz;have tl:=hs.tbox.lt;cases k with
  |zero=>
   rw [sentenceL] at hr;have HEq:=hid hr;have c0:=hs.rbox.cell 0 (.int .i64 0) rfl;have c1:=hs.rbox.cell 1 (.string ⟨#[]⟩) rfl;have c2:=hs.rbox.cell 2 (.int .i64 0) rfl;have c3:=hs.rbox.cell 3 (.slice none 0 0) rfl;have c4:=hs.rbox.cell 4 (.slice none 0 0) rfl;have c5:=hs.rbox.cell 5 (.slice none 0 0) rfl;have cf:=hs.rbox.fz;have cl:=hs.rbox.lt;clear hs hr;go_wp2_with fail
   refine bodyPost_ret (v:=y.val) (by simp [results,Tryz.results105,nodeV,TV.val,TV.cells,c0,c1,c2,c3,c4,c5,cf,go_sem]) rfl ?_;rw [<-HEq.out];obtain ⟨Gt,hN,_,_,hc⟩:=SL4.nd;have hN':=(((((hN.set (q:=⟨w.heap.size,0,none⟩) hc (.int .i64 y.kind)).set (q:=⟨w.heap.size,1,none⟩) hc (.string y.text)).set (q:=⟨w.heap.size,2,none⟩) hc (.int .i64 y.n)).set (q:=⟨w.heap.size,3,none⟩) hc (.slice y.sa y.sl y.sc)).set (q:=⟨w.heap.size,4,none⟩) hc (.slice y.aa y.al y.ac)).set (q:=⟨w.heap.size,5,none⟩) hc (.slice y.ka y.kl y.kc);exact ⟨y,Gt,rfl,hN'.own,hN'.from_,SL4.below.trans (below_six (qa _) _ _ _ _ _ _)⟩
  |succ j=>
   have hij:(((j+1:Nat):Int)-1)=(j:Int):=by omega
   rw [hij];have hjl:j<l.length:=by have:=HKl.out;omega
   obtain ⟨u',hu'⟩:∃ u',l[j]? =some u':=⟨_,List.getElem?_eq_getElem hjl⟩;obtain ⟨x',G',hx',hG',hO',hc'⟩:=us_cells HH.out hs.below hu';have HU':=hid (And.intro hu' (And.intro hx' hG'));have HO':=hid (fun W (hb:Below w4.heap.size w4 W)=>hO'.kept (fun b hb'=>hb.block b (hO'.lt b hb')));have HC':=hid (fun W (hb:Below w4.heap.size w4 W) (q:Nat) (c:Value) (hq:x'.cells[q]? =some c)=>show W.cell? ⟨g,j*9+q,none⟩=some c from (cell_of_heap (hb.block _ (Nat.lt_of_lt_of_le HG.out hs.below.size))).trans (hc' q c hq));have HAt:=hid hO'.at_;have hj1:(j:Int)<(l.length:Int):=by omega
   have hj0:(0:Int)<=(j:Int):=by omega
   have hwj:wrap64 (j:Int)=j:=wrap_nat (by have:=HKl.out;omega);have hwj1:wrap64 ((j:Int)-1)=(j:Int)-1:=by have:=HKl.out;unfold wrap64;omega
   have HB4:=hid (qb w4.heap.size w4);have v0:=HC'.out w4 HB4.out 0 (.int .i64 x'.t.kind) rfl;have v1:=HC'.out w4 HB4.out 1 (.string x'.t.text) rfl;have v2:=HC'.out w4 HB4.out 2 (.int .i64 x'.t.n) rfl;have v3:=HC'.out w4 HB4.out 3 (.slice x'.t.sa x'.t.sl x'.t.sc) rfl;have v4:=HC'.out w4 HB4.out 4 (.slice x'.t.aa x'.t.al x'.t.ac) rfl;have v5:=HC'.out w4 HB4.out 5 (.slice x'.t.ka x'.t.kl x'.t.kc) rfl;have v6:=HC'.out w4 HB4.out 6 (.slice x'.ga x'.gl x'.gc) rfl;have v7:=HC'.out w4 HB4.out 7 (.bool x'.cap) rfl;have v8:=HC'.out w4 HB4.out 8 (.int .i64 x'.at_) rfl;rw [Nat.add_zero] at v0;rw [sentenceL,hu'] at hr;dsimp only at hr;clear hs hO' hc' hu' hx' hG' hij;cases hv:u'.verb with
   |false=>
    rw [if_pos hv] at hr;have HEq:=hid hr;clear hr;go_wp2_with (first
     |(go_at_call 27;refine (wrong_calls _ _).mono ?_;rintro e w9 ⟨rfl,rfl⟩)
     |(go_at_call 126;refine (verb_is hv x' _ _ (HO'.out w4 HB4.out)).mono ?_;rintro e w5 ⟨rfl,hb⟩;have HB5:=hid (Below_next HB4.out hb);clear hb;have m8:=HC'.out w5 HB5.out 8 (.int .i64 x'.at_) rfl))
    all_goals exact ⟨rfl,by rw [<-HEq.out];exact ⟨by rw [HAt.out],Below_next SL4.below HB5.out⟩⟩
   |true=>
    rw [if_neg (by rw [hv];simp)] at hr;cases j with
    |zero=>
     dsimp only at hr;have HEq:=hid hr;clear hr hj1 hj0 hwj hwj1;go_wp2_with (first
      |(go_at_call 126;refine (verb_is hv x' _ _ (HO'.out w4 HB4.out)).mono ?_;rintro e w5 ⟨rfl,hb⟩;have HB5:=hid (Below_next HB4.out hb);clear hb;have p0:=HC'.out w5 HB5.out 0 (.int .i64 x'.t.kind) rfl;have p1:=HC'.out w5 HB5.out 1 (.string x'.t.text) rfl;have p2:=HC'.out w5 HB5.out 2 (.int .i64 x'.t.n) rfl;have p3:=HC'.out w5 HB5.out 3 (.slice x'.t.sa x'.t.sl x'.t.sc) rfl;have p4:=HC'.out w5 HB5.out 4 (.slice x'.t.aa x'.t.al x'.t.ac) rfl;have p5:=HC'.out w5 HB5.out 5 (.slice x'.t.ka x'.t.kl x'.t.kc) rfl;have p6:=HC'.out w5 HB5.out 6 (.slice x'.ga x'.gl x'.gc) rfl;have p7:=HC'.out w5 HB5.out 7 (.bool x'.cap) rfl;have p8:=HC'.out w5 HB5.out 8 (.int .i64 x'.at_) rfl;rw [Nat.add_zero] at p0;have t0:=(SL4.later HB5.out).tbox.cell 0 (.int .i64 y.kind) rfl;have t1:=(SL4.later HB5.out).tbox.cell 1 (.string y.text) rfl;have t2:=(SL4.later HB5.out).tbox.cell 2 (.int .i64 y.n) rfl;have t3:=(SL4.later HB5.out).tbox.cell 3 (.slice y.sa y.sl y.sc) rfl;have t4:=(SL4.later HB5.out).tbox.cell 4 (.slice y.aa y.al y.ac) rfl;have t5:=(SL4.later HB5.out).tbox.cell 5 (.slice y.ka y.kl y.kc) rfl;have tf:=(SL4.later HB5.out).tbox.fz;have tl:=(SL4.later HB5.out).tbox.lt))
     refine still_tail 6 (by kernel_rfl) (by kernel_rfl) ?_;simp only [List.take_succ_cons,List.take_zero,List.drop_succ_cons,List.drop_zero];repeat still_step
     refine wpStill_nil ?_;obtain ⟨G9,hN9,ha9,hb9,hc9⟩:=SL.two HH.out HND.out.1 HND.out.2 3 ⟨by omega,by omega⟩ (SL4.later HB5.out) HU'.out.1 HU'.out.2.1 HU'.out.2.2;have HN9:=hid hN9;clear hN9;go_wp2_with (first
      |(go_at_call 127;refine (made_calls' _ _ _ _ _).mono ?_;rintro e w9 ⟨rfl,hb⟩;have hbx:=Below_then hb (show Below (w5.alloc (.cells ⟨tcells [x'.t,y]⟩ 28)).heap.size (w5.alloc (.cells ⟨tcells [x'.t,y]⟩ 28)) _ from by first|exact qb _ _|exact (qb _ _).drew);have HN:=hid (HN9.later hbx);have HB9:=hid (Below_next HB5.out (Below_next ((qb _ _).alloc (qa _) _) hbx));clear hb hbx;have t0:=(SL4.later HB9.out).tbox.cell 0 (.int .i64 y.kind) rfl;have t1:=(SL4.later HB9.out).tbox.cell 1 (.string y.text) rfl;have t2:=(SL4.later HB9.out).tbox.cell 2 (.int .i64 y.n) rfl;have t3:=(SL4.later HB9.out).tbox.cell 3 (.slice y.sa y.sl y.sc) rfl;have t4:=(SL4.later HB9.out).tbox.cell 4 (.slice y.aa y.al y.ac) rfl;have t5:=(SL4.later HB9.out).tbox.cell 5 (.slice y.ka y.kl y.kc) rfl;have tf:=(SL4.later HB9.out).tbox.fz;have tl:=(SL4.later HB9.out).tbox.lt;simp only [nodeV,TV.val,TV.cells]))
     go_roundw
     case rel=>
      have hq:=SL4.next HB9.out HN.out ha9 hb9 hc9;simp only [nodeV] at hq
      with_reducible refine ⟨0,_,_,?_,?_,hq,?_⟩
      ·omega
      ·first|rfl|go_num|(congr 1;omega)|(congr 1;unfold wrap64;omega)
      ·rw [sentenceL];exact HEq.out
     case measure=>exact sent_meas (by omega) (by omega)
    |succ i=>
     obtain ⟨u2,hu2⟩:∃ u2,l[i]? =some u2:=⟨_,List.getElem?_eq_getElem (by omega)⟩;obtain ⟨x2,G2',hx2,hG2,hO2,hc2⟩:=us_cells HH.out SL4.below hu2
     change (match l[i]? with|none=>R.ok t|some v=>if v.noun then sentenceL l i (made 4 [u'.t,v.t,t]) else sentenceL l (i+1) (made 3 [u'.t,t]))=R0 at hr
     rw [hu2] at hr;dsimp only at hr;have HU2:=hid (And.intro hu2 (And.intro hx2 hG2));have HO2:=hid (fun W (hb:Below w4.heap.size w4 W)=>hO2.kept (fun b hb'=>hb.block b (hO2.lt b hb')));have HC2:=hid (fun W (hb:Below w4.heap.size w4 W) (q:Nat) (c:Value) (hq:x2.cells[q]? =some c)=>show W.cell? ⟨g,i*9+q,none⟩=some c from (cell_of_heap (hb.block _ (Nat.lt_of_lt_of_le HG.out SL4.below.size))).trans (hc2 q c hq));have hi0:(0:Int)<=(i:Int):=by omega
     have hi1:(i:Int)<(l.length:Int):=by omega
     have hi2:(i:Int)+1<(l.length:Int):=by omega
     have hi3:(0:Int)<(i:Int)+1:=by omega
     have hi4:(0:Int)<=(i:Int)+1:=by omega
     have hi5:wrap64 (i:Int)=i:=wrap_nat (by have:=HKl.out;omega);have hi6:wrap64 ((i:Int)+1)=(i:Int)+1:=by have:=HKl.out;unfold wrap64;omega
     have hi8:(0:Int)<=(i:Int)+1-1:=by omega
     have hi9:(i:Int)+1-1<(l.length:Int):=by omega
     have hi10:IntKind.i64.wrap (i:Int)=i:=by rw [IntKind.wrap_i64];have:=HKl.out;omega
     have hi7:wrap64 ((i:Int)-1)=(i:Int)-1:=by have:=HKl.out;unfold wrap64;omega
     clear hO2 hc2 hu2 hx2 hG2 hj1 hj0 hwj hwj1;cases hnn:u2.noun with
     |true=>
      rw [if_pos hnn] at hr;have HEq:=hid hr;clear hr;go_wp2_with (first
       |(go_at_call 104;refine (noun_is hnn x2 _ _ (HO2.out w5 HB5.out)).mono ?_;rintro e w6 ⟨rfl,hb⟩;have HB6:=hid (Below_next HB5.out hb);clear hb;have p0:=HC'.out w6 HB6.out 0 (.int .i64 x'.t.kind) rfl;have p1:=HC'.out w6 HB6.out 1 (.string x'.t.text) rfl;have p2:=HC'.out w6 HB6.out 2 (.int .i64 x'.t.n) rfl;have p3:=HC'.out w6 HB6.out 3 (.slice x'.t.sa x'.t.sl x'.t.sc) rfl;have p4:=HC'.out w6 HB6.out 4 (.slice x'.t.aa x'.t.al x'.t.ac) rfl;have p5:=HC'.out w6 HB6.out 5 (.slice x'.t.ka x'.t.kl x'.t.kc) rfl;have p6:=HC'.out w6 HB6.out 6 (.slice x'.ga x'.gl x'.gc) rfl;have p7:=HC'.out w6 HB6.out 7 (.bool x'.cap) rfl;have p8:=HC'.out w6 HB6.out 8 (.int .i64 x'.at_) rfl;rw [Nat.add_zero] at p0;have r0:=HC2.out w6 HB6.out 0 (.int .i64 x2.t.kind) rfl;have r1:=HC2.out w6 HB6.out 1 (.string x2.t.text) rfl;have r2:=HC2.out w6 HB6.out 2 (.int .i64 x2.t.n) rfl;have r3:=HC2.out w6 HB6.out 3 (.slice x2.t.sa x2.t.sl x2.t.sc) rfl;have r4:=HC2.out w6 HB6.out 4 (.slice x2.t.aa x2.t.al x2.t.ac) rfl;have r5:=HC2.out w6 HB6.out 5 (.slice x2.t.ka x2.t.kl x2.t.kc) rfl;have r6:=HC2.out w6 HB6.out 6 (.slice x2.ga x2.gl x2.gc) rfl;have r7:=HC2.out w6 HB6.out 7 (.bool x2.cap) rfl;have r8:=HC2.out w6 HB6.out 8 (.int .i64 x2.at_) rfl;rw [Nat.add_zero] at r0;have t0:=(SL4.later HB6.out).tbox.cell 0 (.int .i64 y.kind) rfl;have t1:=(SL4.later HB6.out).tbox.cell 1 (.string y.text) rfl;have t2:=(SL4.later HB6.out).tbox.cell 2 (.int .i64 y.n) rfl;have t3:=(SL4.later HB6.out).tbox.cell 3 (.slice y.sa y.sl y.sc) rfl;have t4:=(SL4.later HB6.out).tbox.cell 4 (.slice y.aa y.al y.ac) rfl;have t5:=(SL4.later HB6.out).tbox.cell 5 (.slice y.ka y.kl y.kc) rfl;have tf:=(SL4.later HB6.out).tbox.fz;have tl:=(SL4.later HB6.out).tbox.lt)
       |(go_at_call 126;refine (verb_is hv x' _ _ (HO'.out w4 HB4.out)).mono ?_;rintro e w5 ⟨rfl,hb⟩;have HB5:=hid (Below_next HB4.out hb);clear hb;have m0:=HC2.out w5 HB5.out 0 (.int .i64 x2.t.kind) rfl;have m1:=HC2.out w5 HB5.out 1 (.string x2.t.text) rfl;have m2:=HC2.out w5 HB5.out 2 (.int .i64 x2.t.n) rfl;have m3:=HC2.out w5 HB5.out 3 (.slice x2.t.sa x2.t.sl x2.t.sc) rfl;have m4:=HC2.out w5 HB5.out 4 (.slice x2.t.aa x2.t.al x2.t.ac) rfl;have m5:=HC2.out w5 HB5.out 5 (.slice x2.t.ka x2.t.kl x2.t.kc) rfl;have m6:=HC2.out w5 HB5.out 6 (.slice x2.ga x2.gl x2.gc) rfl;have m7:=HC2.out w5 HB5.out 7 (.bool x2.cap) rfl;have m8:=HC2.out w5 HB5.out 8 (.int .i64 x2.at_) rfl;rw [Nat.add_zero] at m0))
      refine still_tail 12 (by kernel_rfl) (by kernel_rfl) ?_;simp only [List.take_succ_cons,List.take_zero,List.drop_succ_cons,List.drop_zero];repeat still_step
      refine wpStill_nil ?_;obtain ⟨G9,hN9,ha9,hb9,hc9⟩:=(SL.three HH.out HND.out.1 HND.out.2 4 ⟨by omega,by omega⟩ (SL4.later HB6.out) HU'.out.1 HU'.out.2.1 HU'.out.2.2 HU2.out.1 HU2.out.2.1 HU2.out.2.2).1;have HN9:=hid hN9;clear hN9;go_wp2_with (first
       |(go_at_call 127;refine (made_calls' _ _ _ _ _).mono ?_;rintro e w9 ⟨rfl,hb⟩;have hbx:=Below_then hb (show Below (w6.alloc (.cells ⟨tcells [x'.t,x2.t,y]⟩ 28)).heap.size (w6.alloc (.cells ⟨tcells [x'.t,x2.t,y]⟩ 28)) _ from by first|exact qb _ _|exact (qb _ _).drew);have HN:=hid (HN9.later hbx);have HB9:=hid (Below_next HB6.out (Below_next ((qb _ _).alloc (qa _) _) hbx));clear hb hbx;have t0:=(SL4.later HB9.out).tbox.cell 0 (.int .i64 y.kind) rfl;have t1:=(SL4.later HB9.out).tbox.cell 1 (.string y.text) rfl;have t2:=(SL4.later HB9.out).tbox.cell 2 (.int .i64 y.n) rfl;have t3:=(SL4.later HB9.out).tbox.cell 3 (.slice y.sa y.sl y.sc) rfl;have t4:=(SL4.later HB9.out).tbox.cell 4 (.slice y.aa y.al y.ac) rfl;have t5:=(SL4.later HB9.out).tbox.cell 5 (.slice y.ka y.kl y.kc) rfl;have tf:=(SL4.later HB9.out).tbox.fz;have tl:=(SL4.later HB9.out).tbox.lt;simp only [nodeV,TV.val,TV.cells]))
      go_roundw
      case rel=>
       have hq:=SL4.next HB9.out HN.out ha9 hb9 hc9;simp only [nodeV] at hq
       with_reducible refine ⟨i,_,_,?_,?_,hq,?_⟩
       ·omega
       ·first|rfl|go_num|(congr 1;omega)|(congr 1;unfold wrap64;omega)
       ·exact HEq.out
      case measure=>exact sent_meas (by omega) (by omega)
     |false=>
      rw [if_neg (by rw [hnn];simp)] at hr;have HEq:=hid hr;clear hr;go_wp2_with (first
       |(go_at_call 104;refine (noun_is hnn x2 _ _ (HO2.out w5 HB5.out)).mono ?_;rintro e w6 ⟨rfl,hb⟩;have HB6:=hid (Below_next HB5.out hb);clear hb;have p0:=HC'.out w6 HB6.out 0 (.int .i64 x'.t.kind) rfl;have p1:=HC'.out w6 HB6.out 1 (.string x'.t.text) rfl;have p2:=HC'.out w6 HB6.out 2 (.int .i64 x'.t.n) rfl;have p3:=HC'.out w6 HB6.out 3 (.slice x'.t.sa x'.t.sl x'.t.sc) rfl;have p4:=HC'.out w6 HB6.out 4 (.slice x'.t.aa x'.t.al x'.t.ac) rfl;have p5:=HC'.out w6 HB6.out 5 (.slice x'.t.ka x'.t.kl x'.t.kc) rfl;have p6:=HC'.out w6 HB6.out 6 (.slice x'.ga x'.gl x'.gc) rfl;have p7:=HC'.out w6 HB6.out 7 (.bool x'.cap) rfl;have p8:=HC'.out w6 HB6.out 8 (.int .i64 x'.at_) rfl;rw [Nat.add_zero] at p0;have r0:=HC2.out w6 HB6.out 0 (.int .i64 x2.t.kind) rfl;have r1:=HC2.out w6 HB6.out 1 (.string x2.t.text) rfl;have r2:=HC2.out w6 HB6.out 2 (.int .i64 x2.t.n) rfl;have r3:=HC2.out w6 HB6.out 3 (.slice x2.t.sa x2.t.sl x2.t.sc) rfl;have r4:=HC2.out w6 HB6.out 4 (.slice x2.t.aa x2.t.al x2.t.ac) rfl;have r5:=HC2.out w6 HB6.out 5 (.slice x2.t.ka x2.t.kl x2.t.kc) rfl;have r6:=HC2.out w6 HB6.out 6 (.slice x2.ga x2.gl x2.gc) rfl;have r7:=HC2.out w6 HB6.out 7 (.bool x2.cap) rfl;have r8:=HC2.out w6 HB6.out 8 (.int .i64 x2.at_) rfl;rw [Nat.add_zero] at r0;have t0:=(SL4.later HB6.out).tbox.cell 0 (.int .i64 y.kind) rfl;have t1:=(SL4.later HB6.out).tbox.cell 1 (.string y.text) rfl;have t2:=(SL4.later HB6.out).tbox.cell 2 (.int .i64 y.n) rfl;have t3:=(SL4.later HB6.out).tbox.cell 3 (.slice y.sa y.sl y.sc) rfl;have t4:=(SL4.later HB6.out).tbox.cell 4 (.slice y.aa y.al y.ac) rfl;have t5:=(SL4.later HB6.out).tbox.cell 5 (.slice y.ka y.kl y.kc) rfl;have tf:=(SL4.later HB6.out).tbox.fz;have tl:=(SL4.later HB6.out).tbox.lt)
       |(go_at_call 126;refine (verb_is hv x' _ _ (HO'.out w4 HB4.out)).mono ?_;rintro e w5 ⟨rfl,hb⟩;have HB5:=hid (Below_next HB4.out hb);clear hb;have m0:=HC2.out w5 HB5.out 0 (.int .i64 x2.t.kind) rfl;have m1:=HC2.out w5 HB5.out 1 (.string x2.t.text) rfl;have m2:=HC2.out w5 HB5.out 2 (.int .i64 x2.t.n) rfl;have m3:=HC2.out w5 HB5.out 3 (.slice x2.t.sa x2.t.sl x2.t.sc) rfl;have m4:=HC2.out w5 HB5.out 4 (.slice x2.t.aa x2.t.al x2.t.ac) rfl;have m5:=HC2.out w5 HB5.out 5 (.slice x2.t.ka x2.t.kl x2.t.kc) rfl;have m6:=HC2.out w5 HB5.out 6 (.slice x2.ga x2.gl x2.gc) rfl;have m7:=HC2.out w5 HB5.out 7 (.bool x2.cap) rfl;have m8:=HC2.out w5 HB5.out 8 (.int .i64 x2.at_) rfl;rw [Nat.add_zero] at m0))
      refine still_tail 6 (by kernel_rfl) (by kernel_rfl) ?_;simp only [List.take_succ_cons,List.take_zero,List.drop_succ_cons,List.drop_zero];repeat still_step
      refine wpStill_nil ?_;obtain ⟨G9,hN9,ha9,hb9,hc9⟩:=SL.two HH.out HND.out.1 HND.out.2 3 ⟨by omega,by omega⟩ (SL4.later HB6.out) HU'.out.1 HU'.out.2.1 HU'.out.2.2;have HN9:=hid hN9;clear hN9;go_wp2_with (first
       |(go_at_call 127;refine (made_calls' _ _ _ _ _).mono ?_;rintro e w9 ⟨rfl,hb⟩;have hbx:=Below_then hb (show Below (w6.alloc (.cells ⟨tcells [x'.t,y]⟩ 28)).heap.size (w6.alloc (.cells ⟨tcells [x'.t,y]⟩ 28)) _ from by first|exact qb _ _|exact (qb _ _).drew);have HN:=hid (HN9.later hbx);have HB9:=hid (Below_next HB6.out (Below_next ((qb _ _).alloc (qa _) _) hbx));clear hb hbx;have t0:=(SL4.later HB9.out).tbox.cell 0 (.int .i64 y.kind) rfl;have t1:=(SL4.later HB9.out).tbox.cell 1 (.string y.text) rfl;have t2:=(SL4.later HB9.out).tbox.cell 2 (.int .i64 y.n) rfl;have t3:=(SL4.later HB9.out).tbox.cell 3 (.slice y.sa y.sl y.sc) rfl;have t4:=(SL4.later HB9.out).tbox.cell 4 (.slice y.aa y.al y.ac) rfl;have t5:=(SL4.later HB9.out).tbox.cell 5 (.slice y.ka y.kl y.kc) rfl;have tf:=(SL4.later HB9.out).tbox.fz;have tl:=(SL4.later HB9.out).tbox.lt;simp only [nodeV,TV.val,TV.cells]))
      go_roundw
      case rel=>
       have hq:=SL4.next HB9.out HN.out ha9 hb9 hc9;simp only [nodeV] at hq
       with_reducible refine ⟨i+1,_,_,?_,?_,hq,?_⟩
       ·omega
       ·first|rfl|go_num|(congr 1;omega)|(congr 1;unfold wrap64;omega)
       ·exact HEq.out
      case measure=>exact sent_meas (by omega) (by omega)
end Pz
end Go.Proofs.YtimcmghhbdfjfaaGreatDoor
