/- Package parse. -/
import Derived.Test.YtimcmghhbdfjfaaGreatDoorQPwV
set_option linter.unusedVariables false
set_option linter.unusedSimpArgs false
set_option maxRecDepth 100000
set_option maxHeartbeats 4000000
namespace Go.Proofs.YtimcmghhbdfjfaaGreatDoor
open Go.RowKit
namespace Pz
theorem Start.put {s:PS} {w:World} {n o rb:Nat} {cs:Array Value} {W:World} (h:Start s w n o cs rb W) (k:Nat) (u:Value) (hk:k<cs.size):Start s w n o (cs.setIfInBounds k u) rb (W.setCell ⟨rb,k,none⟩ u):=
 ⟨h.at_.other h.rb2 h.rb3 u,h.box.put k u hk,h.away.setCell (q:=⟨rb,k,none⟩) (.inr h.rb0) u,h.rb0,h.rb2,h.rb3⟩
def unitCs (y:TV) (a:Int):Array Value:=#[.int .i64 y.kind,.string y.text,.int .i64 y.n,.slice y.sa y.sl y.sc,.slice y.aa y.al y.ac,.slice y.ka y.kl y.kc,.slice none 0 0,.bool false,.int .i64 a]
def sixAt (W:World) (b m:Nat) (y:TV):World:=(((((W.setCell ⟨b,m,none⟩ (.int .i64 y.kind)).setCell ⟨b,m+1,none⟩ (.string y.text)).setCell ⟨b,m+2,none⟩ (.int .i64 y.n)).setCell ⟨b,m+3,none⟩ (.slice y.sa y.sl y.sc)).setCell ⟨b,m+4,none⟩ (.slice y.aa y.al y.ac)).setCell ⟨b,m+5,none⟩ (.slice y.ka y.kl y.kc)
theorem Start.lay {s:PS} {w:World} {n o rb:Nat} {y0:TV} {a:Int} {W:World} (h:Start s w n o (unitCs y0 a) rb W) (y:TV):Start s w n o (unitCs y a) rb (sixAt W rb 0 y):=by
 have:=(((((h.put 0 (.int .i64 y.kind) (by simp [unitCs])).put 1 (.string y.text) (by simp [unitCs])).put 2 (.int .i64 y.n) (by simp [unitCs])).put 3 (.slice y.sa y.sl y.sc) (by simp [unitCs])).put 4 (.slice y.aa y.al y.ac) (by simp [unitCs])).put 5 (.slice y.ka y.kl y.kc) (by simp [unitCs]);simpa [unitCs,sixAt] using this
theorem sixAt_heap (W:World) (b m c:Nat) (y:TV) (hc:c≠b):(sixAt W b m y).heap[c]? =W.heap[c]? :=by
 unfold sixAt
 iterate 6 (refine (qh _ _ _ _ hc).trans ?_)
 rfl
theorem sixAt_size (W:World) (b m:Nat) (y:TV):(sixAt W b m y).heap.size=W.heap.size:=by simp [sixAt,World.setCell]
theorem sixAt_below {B:Nat} (W:World) (b m:Nat) (y:TV) (hB:B<=b):Below B W (sixAt W b m y):=
 (((((qb B W).setCell hB _).setCell hB _).setCell hB _).setCell hB _).setCell hB _|>.setCell hB _
def PB (ty:TypeId) (s:PS) (w0:World) (ub o:Nat) (r:R (U × Nat)) (e:Ending) (w':World):Prop:=
 match r with
 |.ok (u,m)=>∃ x G,e=.returned (.tuple #[])/\Start s w0 m o x.cells ub w'/\OwnU w' u x G/\From [] (ub+1) w'.heap.size G
 |.bad c p=>e=.panicked [faultEntry ty c p]/\Away s.pb w0.heap.size w0 w'
abbrev zeroY:TV:=nodeV 0 0 ⟨#[]⟩ none 0 0
def CBracket (s:PS) (f:Nat):Prop:=∀ g,g<=f->∀ (v:W) (n o ub:Nat) (w0 w:World),Start s w0 n o (unitCs zeroY v.at_) ub w->Lo s w0 ub (ub+1)->v.at_<=s.e->Deep o->need s.ws n 4<=g->Calls Tryz.prog 192 #[ptr s,.pointer (some ⟨ub,0,none⟩)] w (PB 61 s w0 ub o (bracket s.ws s.e g v n o))
theorem PB.ends {ty:TypeId} {s:PS} {w0:World} {ub n o lo hi:Nat} {a:Int} {W:World} {t:T} {y:TV} {G:List Nat} (h:Start s w0 n o (unitCs y a) ub W) (V:Tm s [] lo hi W t y G) (hlo:ub+1<=lo):PB ty s w0 ub o (.ok (⟨t,none,false,a⟩,n)) (.returned (.tuple #[])) W:=
 ⟨unitTV y a,G,rfl,h,ownU_term V.own a,V.from_.mono hlo V.hi_⟩
theorem Nb.lay {s:PS} {w0 W:World} {n o ub:Nat} {y0:TV} {a k:Int} {A:Option Addr} {len cap:Nat} {l:List T} {ys:List TV} {Fs:List (List Nat)} (h:Start s w0 n o (unitCs y0 a) ub W) (L:Lo s w0 ub (ub+1)) (hK:Kids W (.slice A len cap) l ys Fs) (hF:From [] (ub+1) W.heap.size (rowB (.slice A len cap)++Fs.flatten)) (hr:Full (.slice A len cap)\/∀ b,(Value.slice A len cap).ownBlock=some b->ub+1<=b):
 Nb s ub (ub+1) k (.slice A len cap) l (sixAt W ub 0 (nodeV k 0 ⟨#[]⟩ A len cap)):=by
 have hne:ub ∉ rowB (.slice A len cap)++Fs.flatten:=fun hm=>by have:=(From.lt0 hF _ hm).1;omega
 have hB:=(h.lay (nodeV k 0 ⟨#[]⟩ A len cap)).box;refine ⟨⟨fun i v hv=>hB.cell i v ?_,hB.fz,hB.lt⟩,⟨ys,Fs,hK.kept keeper_own (fun b hb=>sixAt_heap _ _ _ _ _ (fun e=>hne (e▸hb))),by rw [sixAt_size];exact hF,hne⟩,hr,qa _,L.pb,h.rb2⟩;unfold nodeCs at hv;unfold unitCs
 match i with
 |0=>simpa [nodeV] using hv
 |1=>simpa [nodeV] using hv
 |2=>simpa [nodeV] using hv
 |3=>simpa [nodeV] using hv
 |4=>simpa [nodeV] using hv
 |5=>simpa [nodeV] using hv
 |i+6=>simp at hv
theorem kids_one {w3 W:World} {lo hi B:Nat} {s:PS} {t:T} {y:TV} {G:List Nat} (V:Tm s [] lo hi w3 t y G) (hlo:B<=lo) (hb:Below (w3.alloc (.cells y.cells 28)).heap.size (w3.alloc (.cells y.cells 28)) W):
 Kids W (.slice (some ⟨w3.heap.size,0,none⟩) 1 1) [t] [y] [G]/\From [] B W.heap.size (rowB (.slice (some ⟨w3.heap.size,0,none⟩) 1 1)++[G].flatten):=by
 have hs:=hb.size;have h1:=V.hi_;have h2:=V.le;simp at hs;have hrow:rowB (.slice (some ⟨w3.heap.size,0,none⟩) 1 1)++[G].flatten=w3.heap.size::G:=by simp [rowB,Value.ownBlock]
 have hK:Kids (w3.alloc (.cells y.cells 28)) (.slice (some ⟨w3.heap.size,0,none⟩) 1 1) [t] [y] [G]:=
  ⟨Side.one (own_alloc V.own _),by simpa using ownsRow_zero (ownsRow_one w3 y 28)⟩
 refine ⟨hK.kept keeper_own (fun b hb'=>hb.block b ?_),?_⟩
 ·rw [hrow] at hb'
  rcases List.mem_cons.1 hb' with rfl|hb'
  ·simp
  ·have:=From.lt0 V.from_ b hb';simp;omega
 ·rw [hrow]
  exact (V.from_.cons h1 (Nat.lt_succ_self _) (by omega) (fun c hc=>by cases hc)).mono hlo (by omega)
theorem Tm.node1g {s:PS} {F:List Nat} {lo hi:Nat} {w:World} {k nn:Int} {b:ByteArray} {t1:T} {y1:TV} {G1:List Nat} (T1:Tm s F lo hi w t1 y1 G1) (hb:b.size<=140737488355328) (hk:0<=k/\k<=100) (hnn:0<=nn/\nn<=100) (hp:s.pb<w.heap.size):
 Tm s F lo (w.heap.size+1) (w.alloc (.cells y1.cells 28)) (.mk k b nn [] [] [t1]) (nodeV k nn b (some ⟨w.heap.size,0,none⟩) 1 1) (w.heap.size::G1):=by
 have hR:=ownR_new (Side.one T1.own) (by simp);rw [show (⟨tcells [y1]⟩:Array Value)=y1.cells from by simp [tcells]] at hR;refine ⟨?_,T1.from_.cons T1.hi_ (Nat.lt_succ_self _) (qi T1.le T1.hi_) (fun c hc=>Nat.lt_of_lt_of_le (T1.old c hc) (qi T1.le T1.hi_)),by simp,fun h=>?_,by have:=T1.le;have:=T1.hi_;omega,T1.old⟩
 ·simpa using own_node (k:=k) (n:=nn) (s:=b) hR (by omega) (by omega) (by omega) (by omega) hb (by simp) (qa _) (by unfold maxLen;simp)
 ·rcases List.mem_cons.1 h with h|h
  ·omega
  ·exact T1.np h
theorem Tm.six {s:PS} {F:List Nat} {lo hi b m:Nat} {w:World} {t:T} {y y':TV} {G:List Nat} (h:Tm s F lo hi w t y G) (hb:b ∉ G):Tm s F lo hi (sixAt w b m y') t y G:=
 ((((((h.set (q:=⟨b,m,none⟩) hb _).set (q:=⟨b,m+1,none⟩) hb _).set (q:=⟨b,m+2,none⟩) hb _).set (q:=⟨b,m+3,none⟩) hb _).set (q:=⟨b,m+4,none⟩) hb _).set (q:=⟨b,m+5,none⟩) hb _)
theorem Tm.above {s:PS} {lo hi b:Nat} {w:World} {t:T} {y:TV} {G:List Nat} (h:Tm s [] lo hi w t y G) (hb:b<lo):b ∉ G:=fun hm=>by have:=(From.lt0 h.from_ _ hm).1;omega
theorem Bx.six {s:PS} {w:World} {b ub m:Nat} {y:TV} {cs:Array Value} (h:Bx s w b cs) (hb:b≠ub):Bx s (sixAt w ub m y) b cs:=⟨h.box.kept (sixAt_heap _ _ _ _ _ hb) (by rw [sixAt_size];exact qa _),h.n1,h.n2⟩
theorem set_six {l:List Value} {z:Array Value} {y:TV} {m:Nat} (hm:l.length=m) (hz:z.size=6):
 ((((((l++z.toList).set m (.int .i64 y.kind)).set (m+1) (.string y.text)).set (m+2) (.int .i64 y.n)).set (m+3) (.slice y.sa y.sl y.sc)).set (m+4) (.slice y.aa y.al y.ac)).set (m+5) (.slice y.ka y.kl y.kc)=l++y.cells.toList:=by
 subst hm;obtain ⟨zl⟩:=z
 match zl,hz with
 |[a,b,c,d,e,f],_=>simp [List.set_append,TV.cells]
theorem row_put {w5:World} {g m cap:Nat} {Y:List TV} {y:TV} {z:Array Value} (hz:z.size=6) (hl:Y.length=m) (h:w5.ownsRow 0 28 6 (.slice (some ⟨g,0,none⟩) (m+1) cap) (m+1) (tcells Y++z.toList)):
 (sixAt w5 g (m*6) y).ownsRow 0 28 6 (.slice (some ⟨g,0,none⟩) (m+1) cap) (m+1) (tcells Y++y.cells.toList):=by
 have e:=set_six (y:=y) (l:=tcells Y) (z:=z) (m:=m*6) (by rw [tcells_len,hl]) hz;have h1:=(h.stored (m*6) (.int .i64 y.kind)).1;have h2:=(h1.stored (m*6+1) (.string y.text)).1;have h3:=(h2.stored (m*6+2) (.int .i64 y.n)).1;have h4:=(h3.stored (m*6+3) (.slice y.sa y.sl y.sc)).1;have h5:=(h4.stored (m*6+4) (.slice y.aa y.al y.ac)).1;have h6:=(h5.stored (m*6+5) (.slice y.ka y.kl y.kc)).1;rw [e] at h6;unfold sixAt
 with_reducible exact h6
theorem zero_at {w5:World} {g m cap:Nat} {Y:List TV} {z:Array Value} (hz:z.size=6) (hl:Y.length=m) (h:w5.ownsRow 0 28 6 (.slice (some ⟨g,0,none⟩) (m+1) cap) (m+1) (tcells Y++z.toList)):
 (∀ (q:Nat) (v:Value),z[q]? =some v->w5.cell? ⟨g,m*6+q,none⟩=some v)/\∀ o,w5.frozen? ⟨g,o,none⟩=false:=by
 refine ⟨fun q v hv=>?_,fun o=>h.frozenAt o⟩;have hq:=(Array.getElem?_eq_some_iff.1 hv).1;rw [h.cellAt (m*6+q) (by omega),List.getElem?_append_right (by rw [tcells_len,hl];omega),tcells_len,hl,Nat.add_sub_cancel_left];simpa using hv
theorem news_away {p:Nat} {W W1 w6:World} {Z:Array Value} {ty:TypeId} (hp:p<W.heap.size) (hA:Away p W1.heap.size W1 w6) (h1:W1.heap[W.heap.size]? =some (.cells Z ty (0,0))):∀ j u,Z.toList[j]? =some u->w6.cell? ((⟨W.heap.size,0,none⟩:Addr).add j)=some u:=
 World.news_of_block ((hA.block W.heap.size (Array.getElem?_eq_some_iff.1 h1).1 (by omega)).trans h1)
theorem grown_one {wb w5:World} {v:Value} {g:Nat} (h:wb.grownBy w5 v.ownBlock) (hat:v.ownBlock=some g\/g=wb.heap.size) (o:Nat) (u:Value):wb.grownBy (w5.setCell ⟨g,o,none⟩ u) v.ownBlock:=by
 refine ⟨h.os,h.tape,h.output,by simpa [World.setCell] using h.size,fun k hk hne=>?_⟩;have hkg:k≠g:=by
  rcases hat with e|e
  ·exact fun h'=>hne (by rw [e,h'])
  ·omega
 exact (qh _ _ _ _ hkg).trans (h.block k hk hne)
theorem grown_six {wb w5:World} {v:Value} {g:Nat} (h:wb.grownBy w5 v.ownBlock) (hat:v.ownBlock=some g\/g=wb.heap.size) (m:Nat) (y:TV):wb.grownBy (sixAt w5 g m y) v.ownBlock:=
 grown_one (grown_one (grown_one (grown_one (grown_one (grown_one h hat _ _) hat _ _) hat _ _) hat _ _) hat _ _) hat _ _
theorem Nb.put {s:PS} {w0:World} {n o ub:Nat} {a k:Int} {A:Option Addr} {len cap0:Nat} {l:List T} {ys:List TV} {Fs:List (List Nat)} {w6 wa w8:World} {t:T} {y:TV} {G:List Nat} {lo5 hi5 g cap:Nat} {z:Array Value} (S:Start s w0 n o (unitCs (nodeV k 0 ⟨#[]⟩ A len cap0) a) ub w6) (L:Lo s w0 ub (ub+1))
 (hU:Kids w6 (.slice A len cap0) l ys Fs) (hF:From [] (ub+1) lo5 (rowB (.slice A len cap0)++Fs.flatten)) (V:Tm s [] lo5 hi5 w6 t y G) (hlo5:ub<lo5) (hb7:Below w6.heap.size w6 wa) (hz:z.size=6)
 (hown:w8.ownsRow 0 28 6 (.slice (some ⟨g,0,none⟩) (l.length+1) cap) (l.length+1) ((ys.flatMap fun y=>(TV.cells y).toList)++z.toList)) (hg:wa.grownBy w8 (Value.slice A len cap0).ownBlock) (hat:(Value.slice A len cap0).ownBlock=some g\/g=wa.heap.size) (hlt:g<w8.heap.size) (hgl:ub+1<=g) (hbl:Below (ub+1) wa w8):
 Nb s ub (ub+1) k (.slice (some ⟨g,0,none⟩) (l.length+1) cap) (l++[t]) ((sixAt w8 g (l.length*6) y).setCell ⟨ub,5,none⟩ (.slice (some ⟨g,0,none⟩) (l.length+1) cap))/\Start s w0 n o (unitCs (nodeV k 0 ⟨#[]⟩ (some ⟨g,0,none⟩) (l.length+1) cap) a) ub ((sixAt w8 g (l.length*6) y).setCell ⟨ub,5,none⟩ (.slice (some ⟨g,0,none⟩) (l.length+1) cap)):=by
 have hS:=(((S.later hb7).under L hbl).under L (sixAt_below w8 g (l.length*6) y hgl)).put 5 (.slice (some ⟨g,0,none⟩) (l.length+1) cap) (by simp [unitCs]);have hS:Start s w0 n o (unitCs (nodeV k 0 ⟨#[]⟩ (some ⟨g,0,none⟩) (l.length+1) cap) a) ub ((sixAt w8 g (l.length*6) y).setCell ⟨ub,5,none⟩ (.slice (some ⟨g,0,none⟩) (l.length+1) cap)):=by simpa [unitCs,nodeV] using hS
 refine ⟨?_,hS⟩;have hle:=V.le;have hhi:=V.hi_;have hall:∀ b∈rowB (.slice A len cap0)++Fs.flatten,b<w6.heap.size:=fun b hb=>by have:=(From.lt0 hF b hb).2;omega
 have h7:Kids wa (.slice A len cap0) l ys Fs:=hU.kept keeper_own (fun b hb=>hb7.block b (hall b hb));have hs7:=hb7.size;have hFG:=hF.append V.from_ (qa _) V.le (by omega) (fun b hb=>by cases hb);have hst:=h7.step keeper_own (hF.mono (qa _) (by omega)) (V.later hb7).own (hFG.mono (qa _) (by omega)) (by omega) (fun b hb=>by cases hb) (row_put (y:=y) hz hU.side.ly hown) (grown_six hg hat (l.length*6) y) hat (by rw [sixAt_size];exact hlt);have hne:ub ∉ rowB (.slice (some ⟨g,0,none⟩) (l.length+1) cap)++(Fs++[G]).flatten:=fun hm=>by
  have hm':ub=g\/ub∈Fs.flatten\/ub∈G:=by simpa [rowB,Value.ownBlock] using hm
  rcases hm' with hm|hm|hm
  ·omega
  ·have:=(From.lt0 hF _ (List.mem_append_right _ hm)).1;omega
  ·have:=(From.lt0 V.from_ _ hm).1;omega
 have hB:=hS.box;refine ⟨⟨fun i v hv=>hB.cell i v ?_,hB.fz,hB.lt⟩,⟨_,_,hst.1.kept keeper_own (fun b hb=>qh _ _ _ _ (fun e=>hne (by have e:b=ub:=e;rw [<-e];exact hb))),by have:=hst.2;simpa [World.setCell] using this,hne⟩,.inr (fun b hb=>by cases hb;exact hgl),qa _,L.pb,hS.rb2⟩;unfold nodeCs at hv;unfold unitCs
 match i with
 |0=>simpa [nodeV] using hv
 |1=>simpa [nodeV] using hv
 |2=>simpa [nodeV] using hv
 |3=>simpa [nodeV] using hv
 |4=>simpa [nodeV] using hv
 |5=>simpa [nodeV] using hv
 |i+6=>simp at hv
end Pz
open Go.RowKit
namespace Pz
theorem say_is {ws:List W} {e g n o:Nat} (hno:∀ v,ws[n]? =some v->¬(v.kind=2/\sees ws (n+1) [61,46]=true)):
 (match ws[n]? with
  |some v=>if v.kind=2/\sees ws (n+1) [61,46]=true then (noun ws e g (n+2) o).andThen fun x=>.ok (.mk 11 (bytes v.text) 0 [] [] [x.1],x.2)
   else (noun ws e g n o).andThen fun x=>.ok (made 10 [x.1],x.2)
  |none=>(noun ws e g n o).andThen fun x=>.ok (made 10 [x.1],x.2))=(noun ws e g n o).andThen fun x=>R.ok (made 10 [x.1],x.2):=by
 cases hv:ws[n]? with
 |none=>rfl
 |some v=>
  dsimp only;rw [if_neg (hno v hv)]
theorem say_step {s:PS} {f g n o:Nat} {w:World} (hnn:CNoun s f) (hg:g<=f) (hP:PAt w s n o) (hD:Deep o) (hle:n<=s.ws.length) (hn:need s.ws n 7<=g+1) (h1:sees s.ws n [105,102,46]=false) (h2:sees s.ws n [119,104,105,108,101,46]=false) (hno:∀ v,s.ws[n]? =some v->¬(v.kind=2/\sees s.ws (n+1) [61,46]=true)):
 Calls Tryz.prog 241 #[ptr s] w (PT 61 s [] w o (sentence s.ws s.e (g+1) n o)):=by
 obtain ⟨m0,hm0,hmz0,hmz1,hmz2⟩:=info_parts info_term1;obtain ⟨R0,hR0⟩:∃ R0,sentence s.ws s.e (g+1) n o=R0:=⟨_,rfl⟩;rw [hR0];rw [sentence,if_neg (by rw [h1];simp),if_neg (by rw [h2];simp)] at hR0;have H1:=hid (fun W h=>sees_is (o:=o) h1 W h);have H2:=hid (fun W h=>sees_is (o:=o) h2 W h);have HOk:=hid hP.ok;have HNN:=hid hnn;have HG:=hid hg;have HN:=hid hn;have HDp:=hid hD;have S0:=hid (Start.new hP zeroT 28);unfold ptr;replace hR0:=(say_is (e:=s.e) (g:=g) (o:=o) hno).symm.trans hR0;have HNO:=hid hno;clear hno;clear h1 h2 hP hnn hg hn hD;have HC:=hid (fun W (h:PAt W s (n) o)=>HNN.out g HG.out (n) o W h HDp.out (by have:=HN.out;unfold need at*;omega));unfold ptr at HC;have hw:wrap64 ((n:Int)+1)=(n:Int)+1:=by have:=HOk.len;unfold wrap64;omega
 by_cases hlt:n+1<s.ws.length;rotate_left
 ·have d1:decide ((n:Int)+1<(s.ws.length:Int))=false:=by simp<;>omega
  clear hlt hle;cases hr:noun s.ws s.e g n o with
  |bad c p=>
   rw [hr] at HC hR0;have HEq:=hid hR0;clear hR0 hr;go_enter Tryz.func241,Tryz.ntmps241
   go_upto_region 22 with (first
    |(go_at_call 122;refine (H2.out _ (S1.at_.later (by go_grown))).mono ?_;rintro e w2 ⟨rfl,hb⟩;have hb0:=hb;have hb:=Start.then S1.out hb (by go_grown);have S2:=hid (S1.later hb);clear hb hb0)
    |(go_at_call 122;refine (H1.out _ (S0.at_.later (by go_grown))).mono ?_;rintro e w1 ⟨rfl,hb⟩;have hb0:=hb;have hb:=Start.then S0.out hb (by go_grown);have S1:=hid (S0.later hb);clear hb hb0))
   have h0:=S2.at_.c0;have h1:=S2.at_.c1
   skip
   go_quiet (fail);generalize hWq:World.drewN w2 _=w3;have hbq:Below w2.heap.size w2 w3:=hWq▸below_drewN (qb _ _) _;have S3:=hid (S2.later hbq);clear hbq hWq;clear h0 h1;go_wp2_with ((go_at_call 193;refine (HC.out _ (S3.at_.later (by go_grown))).mono ?_;intro e w9 hp;replace hp:=PT.from S3.out (by go_grown) hp;obtain ⟨rfl,hA⟩:=hp))
   all_goals exact ⟨rfl,by rw [<-HEq.out];exact ⟨rfl,S3.away.next hA⟩⟩
  |ok r=>
   obtain ⟨t4,m4⟩:=r;rw [hr] at HC hR0;have HEq:=hid hR0;clear hR0 hr;go_enter Tryz.func241,Tryz.ntmps241
   go_upto_region 22 with (first
    |(go_at_call 122;refine (H2.out _ (S1.at_.later (by go_grown))).mono ?_;rintro e w2 ⟨rfl,hb⟩;have hb0:=hb;have hb:=Start.then S1.out hb (by go_grown);have S2:=hid (S1.later hb);clear hb hb0)
    |(go_at_call 122;refine (H1.out _ (S0.at_.later (by go_grown))).mono ?_;rintro e w1 ⟨rfl,hb⟩;have hb0:=hb;have hb:=Start.then S0.out hb (by go_grown);have S1:=hid (S0.later hb);clear hb hb0))
   have h0:=S2.at_.c0;have h1:=S2.at_.c1
   skip
   go_quiet (fail);generalize hWq:World.drewN w2 _=w3;have hbq:Below w2.heap.size w2 w3:=hWq▸below_drewN (qb _ _) _;have S3:=hid (S2.later hbq);clear hbq hWq;clear h0 h1;go_wp2_with (first
    |(go_at_call 127;refine (made_calls' _ _ _ _ _).mono ?_;rintro e w5 ⟨rfl,hb⟩;have hb0:=hb;have hb:=Start.then S4.out hb (by go_grown);have S5:=hid (S4.later hb);have N5:=hid ((Tm.node1 (k:=10) T4.out ⟨by omega,by omega⟩ S4.at_.lt).later hb0);obtain ⟨c0,c1,c2,c3,c4,c5⟩:=S5.box.rz rfl;have cf:=S5.box.fz;have cl:=S5.box.lt;clear hb hb0;simp only [nodeV,TV.val,TV.cells])
    |(go_at_call 193;refine (HC.out _ (S3.at_.later (by go_grown))).mono ?_;intro e w4 hp;replace hp:=PT.from S3.out (by go_grown) hp;obtain ⟨y4,G4,rfl,hO,hG,hP,hA⟩:=hp;have S4:=hid (S3.moved hA hP);have T4:=hid (Tm.new S3.out hO hG (by simp) hA.size (by simp));clear hO hG hP hA;simp only [TV.val,TV.cells]))
   all_goals
    refine bodyPost_ret (v:=(nodeV 10 0 ⟨#[]⟩ (some ⟨w4.heap.size,0,none⟩) 1 1).val) (by simp [results,Tryz.results241,nodeV,TV.val,TV.cells,c0,c1,c2,c3,c4,c5,cf,go_sem]) rfl ?_;rw [<-HEq.out];exact N5.ends S5.out S3.box.lt (by simp) _ _ _ _ _ _
 have d1:decide ((n:Int)+1<(s.ws.length:Int))=true:=by simp<;>omega
 obtain ⟨v,hv⟩:∃ v,s.ws[n]? =some v:=⟨_,List.getElem?_eq_getElem (by omega)⟩;obtain ⟨v2,hv2⟩:∃ v2,s.ws[n+1]? =some v2:=⟨_,List.getElem?_eq_getElem hlt⟩;have hno:=HNO.out v hv;have hse:sees s.ws (n+1) [61,46]=(v2.kind==7&&v2.text==[61,46]):=by unfold sees;rw [hv2]
 rw [hse] at hno;have HV:=hid hv;have HV2:=hid hv2;have hn0:n<s.ws.length:=(by omega);have j0:(0:Int)<=(n:Int)+1:=(by omega);have j1:(n:Int)+1<(s.ws.length:Int):=by omega
 clear HNO hse hv hv2 hle;by_cases hk:v.kind=2;rotate_left
 ·have d2:(v.kind==2)=false:=by simp [hk]
  clear hno hk;cases hr:noun s.ws s.e g n o with
  |bad c p=>
   rw [hr] at HC hR0;have HEq:=hid hR0;clear hR0 hr;go_enter Tryz.func241,Tryz.ntmps241
   go_upto_region 22 with (first
    |(go_at_call 122;refine (H2.out _ (S1.at_.later (by go_grown))).mono ?_;rintro e w2 ⟨rfl,hb⟩;have hb0:=hb;have hb:=Start.then S1.out hb (by go_grown);have S2:=hid (S1.later hb);clear hb hb0)
    |(go_at_call 122;refine (H1.out _ (S0.at_.later (by go_grown))).mono ?_;rintro e w1 ⟨rfl,hb⟩;have hb0:=hb;have hb:=Start.then S0.out hb (by go_grown);have S1:=hid (S0.later hb);clear hb hb0))
   have h0:=S2.at_.c0;have h1:=S2.at_.c1;obtain ⟨hwa,k0,k1,k2⟩:=S2.at_.word HV.out;rw [hwa] at h0;have hpb:=S2.at_.lt;have hwb:s.wb<w2.heap.size:=qc _ _ k0;go_quiet (fail);generalize hWq:World.drewN w2 _=w3;have hbq:Below w2.heap.size w2 w3:=hWq▸below_drewN (qb _ _) _;have S3:=hid (S2.later hbq);clear hbq hWq;clear h0 h1;go_wp2_with ((go_at_call 193;refine (HC.out _ (S3.at_.later (by go_grown))).mono ?_;intro e w9 hp;replace hp:=PT.from S3.out (by go_grown) hp;obtain ⟨rfl,hA⟩:=hp))
   all_goals exact ⟨rfl,by rw [<-HEq.out];exact ⟨rfl,S3.away.next hA⟩⟩
  |ok r=>
   obtain ⟨t4,m4⟩:=r;rw [hr] at HC hR0;have HEq:=hid hR0;clear hR0 hr;go_enter Tryz.func241,Tryz.ntmps241
   go_upto_region 22 with (first
    |(go_at_call 122;refine (H2.out _ (S1.at_.later (by go_grown))).mono ?_;rintro e w2 ⟨rfl,hb⟩;have hb0:=hb;have hb:=Start.then S1.out hb (by go_grown);have S2:=hid (S1.later hb);clear hb hb0)
    |(go_at_call 122;refine (H1.out _ (S0.at_.later (by go_grown))).mono ?_;rintro e w1 ⟨rfl,hb⟩;have hb0:=hb;have hb:=Start.then S0.out hb (by go_grown);have S1:=hid (S0.later hb);clear hb hb0))
   have h0:=S2.at_.c0;have h1:=S2.at_.c1;obtain ⟨hwa,k0,k1,k2⟩:=S2.at_.word HV.out;rw [hwa] at h0;have hpb:=S2.at_.lt;have hwb:s.wb<w2.heap.size:=qc _ _ k0;go_quiet (fail);generalize hWq:World.drewN w2 _=w3;have hbq:Below w2.heap.size w2 w3:=hWq▸below_drewN (qb _ _) _;have S3:=hid (S2.later hbq);clear hbq hWq;clear h0 h1;go_wp2_with (first
    |(go_at_call 127;refine (made_calls' _ _ _ _ _).mono ?_;rintro e w5 ⟨rfl,hb⟩;have hb0:=hb;have hb:=Start.then S4.out hb (by go_grown);have S5:=hid (S4.later hb);have N5:=hid ((Tm.node1 (k:=10) T4.out ⟨by omega,by omega⟩ S4.at_.lt).later hb0);obtain ⟨c0,c1,c2,c3,c4,c5⟩:=S5.box.rz rfl;have cf:=S5.box.fz;have cl:=S5.box.lt;clear hb hb0;simp only [nodeV,TV.val,TV.cells])
    |(go_at_call 193;refine (HC.out _ (S3.at_.later (by go_grown))).mono ?_;intro e w4 hp;replace hp:=PT.from S3.out (by go_grown) hp;obtain ⟨y4,G4,rfl,hO,hG,hP,hA⟩:=hp;have S4:=hid (S3.moved hA hP);have T4:=hid (Tm.new S3.out hO hG (by simp) hA.size (by simp));clear hO hG hP hA;simp only [TV.val,TV.cells]))
   all_goals
    refine bodyPost_ret (v:=(nodeV 10 0 ⟨#[]⟩ (some ⟨w4.heap.size,0,none⟩) 1 1).val) (by simp [results,Tryz.results241,nodeV,TV.val,TV.cells,c0,c1,c2,c3,c4,c5,cf,go_sem]) rfl ?_;rw [<-HEq.out];exact N5.ends S5.out S3.box.lt (by simp) _ _ _ _ _ _
 have d2:(v.kind==2)=true:=by simp [hk]
 by_cases hk2:v2.kind=7;rotate_left
 ·have d3:(v2.kind==7)=false:=by simp [hk2]
  clear hno hk hk2;cases hr:noun s.ws s.e g n o with
  |bad c p=>
   rw [hr] at HC hR0;have HEq:=hid hR0;clear hR0 hr;go_enter Tryz.func241,Tryz.ntmps241
   go_upto_region 22 with (first
    |(go_at_call 122;refine (H2.out _ (S1.at_.later (by go_grown))).mono ?_;rintro e w2 ⟨rfl,hb⟩;have hb0:=hb;have hb:=Start.then S1.out hb (by go_grown);have S2:=hid (S1.later hb);clear hb hb0)
    |(go_at_call 122;refine (H1.out _ (S0.at_.later (by go_grown))).mono ?_;rintro e w1 ⟨rfl,hb⟩;have hb0:=hb;have hb:=Start.then S0.out hb (by go_grown);have S1:=hid (S0.later hb);clear hb hb0))
   have h0:=S2.at_.c0;have h1:=S2.at_.c1;obtain ⟨hwa,k0,k1,k2⟩:=S2.at_.word HV.out;rw [hwa] at h0;have hpb:=S2.at_.lt;have hwb:s.wb<w2.heap.size:=qc _ _ k0;obtain ⟨-,q0,q1,q2⟩:=S2.at_.words.at_ _ _ HV2.out;go_quiet (fail);generalize hWq:World.drewN w2 _=w3;have hbq:Below w2.heap.size w2 w3:=hWq▸below_drewN (qb _ _) _;have S3:=hid (S2.later hbq);clear hbq hWq;clear h0 h1;go_wp2_with ((go_at_call 193;refine (HC.out _ (S3.at_.later (by go_grown))).mono ?_;intro e w9 hp;replace hp:=PT.from S3.out (by go_grown) hp;obtain ⟨rfl,hA⟩:=hp))
   all_goals exact ⟨rfl,by rw [<-HEq.out];exact ⟨rfl,S3.away.next hA⟩⟩
  |ok r=>
   obtain ⟨t4,m4⟩:=r;rw [hr] at HC hR0;have HEq:=hid hR0;clear hR0 hr;go_enter Tryz.func241,Tryz.ntmps241
   go_upto_region 22 with (first
    |(go_at_call 122;refine (H2.out _ (S1.at_.later (by go_grown))).mono ?_;rintro e w2 ⟨rfl,hb⟩;have hb0:=hb;have hb:=Start.then S1.out hb (by go_grown);have S2:=hid (S1.later hb);clear hb hb0)
    |(go_at_call 122;refine (H1.out _ (S0.at_.later (by go_grown))).mono ?_;rintro e w1 ⟨rfl,hb⟩;have hb0:=hb;have hb:=Start.then S0.out hb (by go_grown);have S1:=hid (S0.later hb);clear hb hb0))
   have h0:=S2.at_.c0;have h1:=S2.at_.c1;obtain ⟨hwa,k0,k1,k2⟩:=S2.at_.word HV.out;rw [hwa] at h0;have hpb:=S2.at_.lt;have hwb:s.wb<w2.heap.size:=qc _ _ k0;obtain ⟨-,q0,q1,q2⟩:=S2.at_.words.at_ _ _ HV2.out;go_quiet (fail);generalize hWq:World.drewN w2 _=w3;have hbq:Below w2.heap.size w2 w3:=hWq▸below_drewN (qb _ _) _;have S3:=hid (S2.later hbq);clear hbq hWq;clear h0 h1;go_wp2_with (first
    |(go_at_call 127;refine (made_calls' _ _ _ _ _).mono ?_;rintro e w5 ⟨rfl,hb⟩;have hb0:=hb;have hb:=Start.then S4.out hb (by go_grown);have S5:=hid (S4.later hb);have N5:=hid ((Tm.node1 (k:=10) T4.out ⟨by omega,by omega⟩ S4.at_.lt).later hb0);obtain ⟨c0,c1,c2,c3,c4,c5⟩:=S5.box.rz rfl;have cf:=S5.box.fz;have cl:=S5.box.lt;clear hb hb0;simp only [nodeV,TV.val,TV.cells])
    |(go_at_call 193;refine (HC.out _ (S3.at_.later (by go_grown))).mono ?_;intro e w4 hp;replace hp:=PT.from S3.out (by go_grown) hp;obtain ⟨y4,G4,rfl,hO,hG,hP,hA⟩:=hp;have S4:=hid (S3.moved hA hP);have T4:=hid (Tm.new S3.out hO hG (by simp) hA.size (by simp));clear hO hG hP hA;simp only [TV.val,TV.cells]))
   all_goals
    refine bodyPost_ret (v:=(nodeV 10 0 ⟨#[]⟩ (some ⟨w4.heap.size,0,none⟩) 1 1).val) (by simp [results,Tryz.results241,nodeV,TV.val,TV.cells,c0,c1,c2,c3,c4,c5,cf,go_sem]) rfl ?_;rw [<-HEq.out];exact N5.ends S5.out S3.box.lt (by simp) _ _ _ _ _ _
 have d3:(v2.kind==7)=true:=by simp [hk2]
 have d4:((bytes v2.text).toList==[61,46])=false:=by rw [text_beq];simpa [hk,hk2] using hno
 clear hno hk hk2;cases hr:noun s.ws s.e g n o with
 |bad c p=>
  rw [hr] at HC hR0;have HEq:=hid hR0;clear hR0 hr;go_enter Tryz.func241,Tryz.ntmps241
  go_upto_region 22 with (first
   |(go_at_call 122;refine (H2.out _ (S1.at_.later (by go_grown))).mono ?_;rintro e w2 ⟨rfl,hb⟩;have hb0:=hb;have hb:=Start.then S1.out hb (by go_grown);have S2:=hid (S1.later hb);clear hb hb0)
   |(go_at_call 122;refine (H1.out _ (S0.at_.later (by go_grown))).mono ?_;rintro e w1 ⟨rfl,hb⟩;have hb0:=hb;have hb:=Start.then S0.out hb (by go_grown);have S1:=hid (S0.later hb);clear hb hb0))
  have h0:=S2.at_.c0;have h1:=S2.at_.c1;obtain ⟨hwa,k0,k1,k2⟩:=S2.at_.word HV.out;rw [hwa] at h0;have hpb:=S2.at_.lt;have hwb:s.wb<w2.heap.size:=qc _ _ k0;obtain ⟨-,q0,q1,q2⟩:=S2.at_.words.at_ _ _ HV2.out;go_quiet (fail);generalize hWq:World.drewN w2 _=w3;have hbq:Below w2.heap.size w2 w3:=hWq▸below_drewN (qb _ _) _;have S3:=hid (S2.later hbq);clear hbq hWq;clear h0 h1;go_wp2_with ((go_at_call 193;refine (HC.out _ (S3.at_.later (by go_grown))).mono ?_;intro e w9 hp;replace hp:=PT.from S3.out (by go_grown) hp;obtain ⟨rfl,hA⟩:=hp))
  all_goals exact ⟨rfl,by rw [<-HEq.out];exact ⟨rfl,S3.away.next hA⟩⟩
 |ok r=>
  obtain ⟨t4,m4⟩:=r;rw [hr] at HC hR0;have HEq:=hid hR0;clear hR0 hr;go_enter Tryz.func241,Tryz.ntmps241
  go_upto_region 22 with (first
   |(go_at_call 122;refine (H2.out _ (S1.at_.later (by go_grown))).mono ?_;rintro e w2 ⟨rfl,hb⟩;have hb0:=hb;have hb:=Start.then S1.out hb (by go_grown);have S2:=hid (S1.later hb);clear hb hb0)
   |(go_at_call 122;refine (H1.out _ (S0.at_.later (by go_grown))).mono ?_;rintro e w1 ⟨rfl,hb⟩;have hb0:=hb;have hb:=Start.then S0.out hb (by go_grown);have S1:=hid (S0.later hb);clear hb hb0))
  have h0:=S2.at_.c0;have h1:=S2.at_.c1;obtain ⟨hwa,k0,k1,k2⟩:=S2.at_.word HV.out;rw [hwa] at h0;have hpb:=S2.at_.lt;have hwb:s.wb<w2.heap.size:=qc _ _ k0;obtain ⟨-,q0,q1,q2⟩:=S2.at_.words.at_ _ _ HV2.out;go_quiet (fail);generalize hWq:World.drewN w2 _=w3;have hbq:Below w2.heap.size w2 w3:=hWq▸below_drewN (qb _ _) _;have S3:=hid (S2.later hbq);clear hbq hWq;clear h0 h1;go_wp2_with (first
   |(go_at_call 127;refine (made_calls' _ _ _ _ _).mono ?_;rintro e w5 ⟨rfl,hb⟩;have hb0:=hb;have hb:=Start.then S4.out hb (by go_grown);have S5:=hid (S4.later hb);have N5:=hid ((Tm.node1 (k:=10) T4.out ⟨by omega,by omega⟩ S4.at_.lt).later hb0);obtain ⟨c0,c1,c2,c3,c4,c5⟩:=S5.box.rz rfl;have cf:=S5.box.fz;have cl:=S5.box.lt;clear hb hb0;simp only [nodeV,TV.val,TV.cells])
   |(go_at_call 193;refine (HC.out _ (S3.at_.later (by go_grown))).mono ?_;intro e w4 hp;replace hp:=PT.from S3.out (by go_grown) hp;obtain ⟨y4,G4,rfl,hO,hG,hP,hA⟩:=hp;have S4:=hid (S3.moved hA hP);have T4:=hid (Tm.new S3.out hO hG (by simp) hA.size (by simp));clear hO hG hP hA;simp only [TV.val,TV.cells]))
  all_goals
   refine bodyPost_ret (v:=(nodeV 10 0 ⟨#[]⟩ (some ⟨w4.heap.size,0,none⟩) 1 1).val) (by simp [results,Tryz.results241,nodeV,TV.val,TV.cells,c0,c1,c2,c3,c4,c5,cf,go_sem]) rfl ?_;rw [<-HEq.out];exact N5.ends S5.out S3.box.lt (by simp) _ _ _ _ _ _
theorem set_step {s:PS} {f g n o:Nat} {w:World} (hnn:CNoun s f) (hg:g<=f) (hP:PAt w s n o) (hD:Deep o) (hle:n<=s.ws.length) (hn:need s.ws n 7<=g+1) (h1:sees s.ws n [105,102,46]=false) (h2:sees s.ws n [119,104,105,108,101,46]=false) {v:W} (hv:s.ws[n]? =some v) (hk:v.kind=2) (hs:sees s.ws (n+1) [61,46]=true):
 Calls Tryz.prog 241 #[ptr s] w (PT 61 s [] w o (sentence s.ws s.e (g+1) n o)):=by
 obtain ⟨m0,hm0,hmz0,hmz1,hmz2⟩:=info_parts info_term1;obtain ⟨R0,hR0⟩:∃ R0,sentence s.ws s.e (g+1) n o=R0:=⟨_,rfl⟩;rw [hR0];rw [sentence,if_neg (by rw [h1];simp),if_neg (by rw [h2];simp)] at hR0;have H1:=hid (fun W h=>sees_is (o:=o) h1 W h);have H2:=hid (fun W h=>sees_is (o:=o) h2 W h);have HOk:=hid hP.ok;have HNN:=hid hnn;have HG:=hid hg;have HN:=hid hn;have HDp:=hid hD;have S0:=hid (Start.new hP zeroT 28);unfold ptr;rw [hv] at hR0;dsimp only at hR0;rw [if_pos ⟨hk,hs⟩] at hR0;have hlt:=sees_lt hs;obtain ⟨v2,hv2⟩:∃ v2,s.ws[n+1]? =some v2:=⟨_,List.getElem?_eq_getElem hlt⟩;have hse:sees s.ws (n+1) [61,46]=(v2.kind==7&&v2.text==[61,46]):=by unfold sees;rw [hv2]
 rw [hse] at hs;simp only [Bool.and_eq_true] at hs;have HV:=hid hv;have HV2:=hid hv2;have HLen:=hid (HOk.word n v hv).2.len;have hw:wrap64 ((n:Int)+1)=(n:Int)+1:=by have:=HOk.len;unfold wrap64;omega
 have HW2:=hid (show wrap64 ((n:Int)+2)=((n+2:Nat):Int) from by have:=HOk.len;unfold wrap64;omega);have hn0:n<s.ws.length:=(by omega);have j0:(0:Int)<=(n:Int)+1:=(by omega);have j1:(n:Int)+1<(s.ws.length:Int):=by omega
 have d1:decide ((n:Int)+1<(s.ws.length:Int))=true:=by simp<;>omega
 have d2:(v.kind==2)=true:=by simp [hk]
 have d3:(v2.kind==7)=true:=hs.1;have d4:((bytes v2.text).toList==[61,46])=true:=by rw [text_beq];exact hs.2
 clear hse hv hv2 hk hs;clear h1 h2 hP hnn hg hn hD;have HC:=hid (fun W (h:PAt W s (n+2) o)=>HNN.out g HG.out (n+2) o W h HDp.out (by have:=HN.out;unfold need at*;omega));unfold ptr at HC;cases hr:noun s.ws s.e g (n+2) o with
 |bad c p=>
  rw [hr] at HC hR0;have HEq:=hid hR0;clear hR0 hr;go_enter Tryz.func241,Tryz.ntmps241
  go_upto_region 22 with (first
   |(go_at_call 122;refine (H2.out _ (S1.at_.later (by go_grown))).mono ?_;rintro e w2 ⟨rfl,hb⟩;have hb0:=hb;have hb:=Start.then S1.out hb (by go_grown);have S2:=hid (S1.later hb);clear hb hb0)
   |(go_at_call 122;refine (H1.out _ (S0.at_.later (by go_grown))).mono ?_;rintro e w1 ⟨rfl,hb⟩;have hb0:=hb;have hb:=Start.then S0.out hb (by go_grown);have S1:=hid (S0.later hb);clear hb hb0))
  have h0:=S2.at_.c0;have h1:=S2.at_.c1;obtain ⟨hwa,k0,k1,k2⟩:=S2.at_.word HV.out;rw [hwa] at h0;have hpb:=S2.at_.lt;have hwb:s.wb<w2.heap.size:=qc _ _ k0;obtain ⟨-,q0,q1,q2⟩:=S2.at_.words.at_ _ _ HV2.out;go_quiet (fail);generalize hWq:World.drewN w2 _=w3;have hbq:Below w2.heap.size w2 w3:=hWq▸below_drewN (qb _ _) _;have S3:=hid (S2.later hbq);clear hbq hWq;clear h0 h1;have h0:=S3.at_.c0;have h1:=S3.at_.c1;clear k0 k1 k2 q0 q1 q2 hpb hwb;obtain ⟨-,k0,k1,k2⟩:=S3.at_.word HV.out;rw [hwa] at h0;have hpb:=S3.at_.lt;have hwb:s.wb<w3.heap.size:=qc _ _ k0;go_upto_region 24 with fail
  go_region
  generalize hWa:World.drew (World.alloc w3 _)=w4;have hb4:Below w3.heap.size w3 w4:=hWa▸((qb _ _).alloc (qa _) _).drew;have X4:=hid (show Bx s w4 w3.heap.size (TV.cells (nodeV 11 0 (bytes v.text) none 0 0)) from by rw [<-hWa];exact (Bx.new S3.out (TV.cells (nodeV 11 0 (bytes v.text) none 0 0)) 28).later ((qb _ _).drew));have S4:=hid (S3.later hb4);clear hWa hb4 h0 h1 k0 k1 k2 hpb hwb;have p4c1:=S4.at_.c1;have p4cf:=S4.at_.fz;go_upto_region 25 with fail
  generalize hWn:World.setCell w4 _ _=w5;have hAn:Away s.pb w4.heap.size w4 w5:=hWn▸(Away.refl _ _ _).setCell (q:=⟨s.pb,1,none⟩) (.inl rfl) _;have hPn:=S4.at_.next (n+2) (v:=.int .i64 (wrap64 ((n:Int)+2))) (by rw [HW2.out]);rw [hWn] at hPn;have S5:=hid (S4.moved hAn hPn);have X5:=hid (X4.moved hAn);clear hAn hPn hWn;clear p4c1 p4cf;go_wp2_with ((go_at_call 193;refine (HC.out _ (S5.at_.later (by go_grown))).mono ?_;intro e w9 hp;replace hp:=PT.from S5.out (by go_grown) hp;obtain ⟨rfl,hA⟩:=hp))
  all_goals exact ⟨rfl,by rw [<-HEq.out];exact ⟨rfl,S5.away.next hA⟩⟩
 |ok r=>
  obtain ⟨t4,m4⟩:=r;rw [hr] at HC hR0;have HEq:=hid hR0;clear hR0 hr;go_enter Tryz.func241,Tryz.ntmps241
  go_upto_region 22 with (first
   |(go_at_call 122;refine (H2.out _ (S1.at_.later (by go_grown))).mono ?_;rintro e w2 ⟨rfl,hb⟩;have hb0:=hb;have hb:=Start.then S1.out hb (by go_grown);have S2:=hid (S1.later hb);clear hb hb0)
   |(go_at_call 122;refine (H1.out _ (S0.at_.later (by go_grown))).mono ?_;rintro e w1 ⟨rfl,hb⟩;have hb0:=hb;have hb:=Start.then S0.out hb (by go_grown);have S1:=hid (S0.later hb);clear hb hb0))
  have h0:=S2.at_.c0;have h1:=S2.at_.c1;obtain ⟨hwa,k0,k1,k2⟩:=S2.at_.word HV.out;rw [hwa] at h0;have hpb:=S2.at_.lt;have hwb:s.wb<w2.heap.size:=qc _ _ k0;obtain ⟨-,q0,q1,q2⟩:=S2.at_.words.at_ _ _ HV2.out;go_quiet (fail);generalize hWq:World.drewN w2 _=w3;have hbq:Below w2.heap.size w2 w3:=hWq▸below_drewN (qb _ _) _;have S3:=hid (S2.later hbq);clear hbq hWq;clear h0 h1;have h0:=S3.at_.c0;have h1:=S3.at_.c1;clear k0 k1 k2 q0 q1 q2 hpb hwb;obtain ⟨-,k0,k1,k2⟩:=S3.at_.word HV.out;rw [hwa] at h0;have hpb:=S3.at_.lt;have hwb:s.wb<w3.heap.size:=qc _ _ k0;go_upto_region 24 with fail
  go_region
  generalize hWa:World.drew (World.alloc w3 _)=w4;have hb4:Below w3.heap.size w3 w4:=hWa▸((qb _ _).alloc (qa _) _).drew;have X4:=hid (show Bx s w4 w3.heap.size (TV.cells (nodeV 11 0 (bytes v.text) none 0 0)) from by rw [<-hWa];exact (Bx.new S3.out (TV.cells (nodeV 11 0 (bytes v.text) none 0 0)) 28).later ((qb _ _).drew));have S4:=hid (S3.later hb4);clear hWa hb4 h0 h1 k0 k1 k2 hpb hwb;have p4c1:=S4.at_.c1;have p4cf:=S4.at_.fz;go_upto_region 25 with fail
  generalize hWn:World.setCell w4 _ _=w5;have hAn:Away s.pb w4.heap.size w4 w5:=hWn▸(Away.refl _ _ _).setCell (q:=⟨s.pb,1,none⟩) (.inl rfl) _;have hPn:=S4.at_.next (n+2) (v:=.int .i64 (wrap64 ((n:Int)+2))) (by rw [HW2.out]);rw [hWn] at hPn;have S5:=hid (S4.moved hAn hPn);have X5:=hid (X4.moved hAn);clear hAn hPn hWn;clear p4c1 p4cf;go_upto_region 26 with (first
   |(with_reducible refine wpList_buildSlice (by rfl) 26 28 1 _ (by rfl) y6.cells m0 _ (by kernel_rfl) hm0 hmz0 (by rw [hmz1];decide) (by rw [hmz1];decide) (by rw [hmz1];kernel_rfl) ?_;generalize hWb:World.alloc w6 _=w7;have hbb:Below w6.heap.size w6 w7:=hWb▸(qb _ _).alloc (qa _) _;have S7:=hid (S6.out.later hbb);have X7:=hid (X6.out.later hbb);have HWB:=hid hWb;clear hWb hbb;obtain ⟨x7c0,x7c1,x7c2,x7c3,x7c4,x7c5⟩:=X7.out.box.r6 (.int .i64 11) (.string (bytes v.text)) (.int .i64 0) (.slice none 0 0) (.slice none 0 0) (.slice none 0 0) rfl;have x7cf:=X7.out.box.fz;have x7cl:=X7.out.box.lt)
   |(go_at_call 193;refine (HC.out _ (S5.at_.later (by go_grown))).mono ?_;intro e w6 hp;replace hp:=PT.from S5.out (by go_grown) hp;obtain ⟨y6,G6,rfl,hO,hG,hP,hA⟩:=hp;have S6:=hid (S5.moved hA hP);have T6:=hid (Tm.new S5.out hO hG (by simp) hA.size (by simp));have X6:=hid (X5.moved hA);clear hO hG hP hA;simp only [TV.val,TV.cells]))
  generalize hWs:World.setCell _ _ _=w8;have hTg:=T6.node1g (k:=11) (nn:=0) (b:=bytes v.text) (by have:=HLen.out;simp [bytes,ByteArray.size];omega) (by omega) (by omega) S6.at_.lt;rw [HWB.out] at hTg;have hl3:w3.heap.size<w5.heap.size:=X5.box.lt;have hT8:=hTg.set (q:=⟨w3.heap.size,5,none⟩) (hTg.above hl3) (.slice (some ⟨w6.heap.size,0,none⟩) 1 1);have hX8:=X7.box.put 5 (.slice (some ⟨w6.heap.size,0,none⟩) 1 1) (by simp [TV.cells]);have hS8:=S7.store (S3.lo (qa _)) 5 (.slice (some ⟨w6.heap.size,0,none⟩) 1 1);rw [hWs] at hT8 hX8 hS8;have T8:=hid hT8;have S8:=hid hS8;have X8:=hid (show Bx s w8 w3.heap.size (TV.cells (nodeV 11 0 (bytes v.text) (some ⟨w6.heap.size,0,none⟩) 1 1)) from ⟨by simpa [TV.cells,nodeV] using hX8,X7.n1,X7.n2⟩);clear hTg hT8 hX8 hS8 hWs x7c0 x7c1 x7c2 x7c3 x7c4 x7c5 x7cf x7cl hl3;obtain ⟨x8c0,x8c1,x8c2,x8c3,x8c4,x8c5⟩:=X8.box.r6 (.int .i64 11) (.string (bytes v.text)) (.int .i64 0) (.slice none 0 0) (.slice none 0 0) (.slice (some ⟨w6.heap.size,0,none⟩) 1 1) rfl;have x8cf:=X8.box.fz;have x8cl:=X8.box.lt;obtain ⟨c0,c1,c2,c3,c4,c5⟩:=S8.box.rz rfl;have cf:=S8.box.fz;have cl:=S8.box.lt;go_wp2_with fail
  refine bodyPost_ret (v:=(nodeV 11 0 (bytes v.text) (some ⟨w6.heap.size,0,none⟩) 1 1).val) (by simp [results,Tryz.results241,nodeV,TV.val,TV.cells,c0,c1,c2,c3,c4,c5,cf,go_sem]) rfl ?_;rw [<-HEq.out];exact T8.ends S8.out (Nat.lt_trans S3.box.lt X5.box.lt) (by simp) _ _ _ _ _ _
end Pz
end Go.Proofs.YtimcmghhbdfjfaaGreatDoor
