/- Package parse. -/
import Derived.Test.YtimcmghhbdfjfaaGreatDoorQPwDA
set_option linter.unusedVariables false
set_option linter.unusedSimpArgs false
set_option maxRecDepth 100000
set_option maxHeartbeats 1000000
namespace Go.Proofs.YtimcmghhbdfjfaaGreatDoor
open Go.RowKit
namespace Pz
theorem _root_.Go.Proofs.YtimcmghhbdfjfaaGreatDoor.From.perm {F:List Nat} {lo hi:Nat} {G H:List Nat} (h:From F lo hi G) (p:G.Perm H):From F lo hi H:=⟨p.nodup_iff.1 h.nodup,fun b hb=>h.mem b (p.mem_iff.2 hb)⟩
theorem info_term1:(Tryz.prog.info? 28).map (fun i=>(i.zero,i.size,i.bytes))=some (some (.agg zeroT),6,104):=by kernel_rfl
theorem node_join {s:PS} {F:List Nat} {lo hi lo2 hi2:Nat} {w w':World} {k:Int} {t:T} {y:TV} {G:List Nat} {l:List T} {ys:List TV} {Fs:List (List Nat)} {g n cap:Nat} (hk:0<=k/\k<=100)
 (T2:Tm s [] lo2 hi2 w t y G) (hS:Side (Own w) l ys Fs) (hF:From F lo hi Fs.flatten) (hFp:s.pb ∉ Fs.flatten) (hhi:hi<=lo2) (hlo:lo<=hi) (hold:∀ b∈F,b<lo) (hn:l.length=n) (hnm:n<=1099511627776)
 (hp:s.pb<w.heap.size) (hown:w'.ownsRow w.heap.size 28 6 (.slice (some ⟨g,0,none⟩) (1+n) cap) (1+n) (y.cells.toList++tcells ys)) (hb:Below w.heap.size w w'):
 Tm s F lo w'.heap.size w' (made k (t::l)) (nodeV k 0 ⟨#[]⟩ (some ⟨g,0,none⟩) (1+n) cap) (g::(G++Fs.flatten)):=by
 have hgb:=ownsRow_lt hown g rfl;have hl2:hi2<=w.heap.size:=T2.hi_;have hle:=T2.le;have hall:∀ b∈Fs.flatten,b<w.heap.size:=fun b hb=>by
  rcases hF.mem b hb with h|h
  ·have:=hold b h;omega
  ·omega
 have hS':Side (Own w') (t::l) (y::ys) (G::Fs):=
  Side.cons (Own.kept _ _ _ T2.own (fun b hb'=>hb.block b (own_lt _ _ _ T2.own b hb'))) (hS.mono (fun t y F0 _ hF0 h=>Own.kept _ _ _ h (fun b hb'=>hb.block b (own_lt _ _ _ h b hb'))))
 have hown2:w'.ownsRow 0 28 6 (.slice (some ⟨g,0,none⟩) (1+n) cap) (t::l).length ((y::ys).flatMap fun y=>(TV.cells y).toList):=by
  have e1:(t::l).length=1+n:=by simp;omega
  have e2:((y::ys).flatMap fun y=>(TV.cells y).toList)=y.cells.toList++tcells ys:=by simp [tcells]
  rw [e1,e2];obtain ⟨h1,h2⟩:=hown;refine ⟨h1,h2.imp id (fun ⟨g',cap',cur,a1,a2,a3⟩=>⟨g',cap',cur,a1,Nat.zero_le _,a3⟩)⟩
 have hK:Kids w' (.slice (some ⟨g,0,none⟩) (1+n) cap) (t::l) (y::ys) (G::Fs):=⟨hS',hown2⟩;have hR:=hK.ownR;have hcap:1+n<=cap/\cap<=maxLen:=by
  rcases hown.2 with ⟨e,_⟩|⟨g',cap',cur,e,_,_,h4,h5,_⟩
  ·cases e
  ·cases e;exact ⟨h4,h5⟩
 have hfr:From F lo w.heap.size (G++Fs.flatten):=((hF.append T2.from_ hhi hle (by omega) (fun b hb=>by have:=hold b hb;omega)).mono (qa _) hl2).perm (List.perm_append_comm);refine ⟨?_,hfr.cons hgb.1 hgb.2 (by omega) (fun c hc=>by have:=hold c hc;omega),qa _,fun h=>?_,by have:=hb.size;omega,hold⟩
 ·have:=own_node (k:=k) (n:=0) (s:=⟨#[]⟩) hR (by omega) (by omega) (by omega) (by omega) (by decide) (by simp;omega) hcap.1 hcap.2
  simpa [made,rowB,Value.ownBlock] using this
 ·rcases List.mem_cons.1 h with h|h
  ·omega
  ·rcases List.mem_append.1 h with h|h
   ·exact T2.np h
   ·exact hFp h
theorem ownsRow_one (w:World) (y:TV) (ty:TypeId):(w.alloc (.cells y.cells ty)).ownsRow w.heap.size ty 6 (.slice (some ⟨w.heap.size,0,none⟩) 1 1) 1 y.cells.toList:=
 ⟨by simp [TV.cells],.inr ⟨w.heap.size,1,y.cells,rfl,qa _,heap_new _ _,qa _,by unfold maxLen;decide,by simp [TV.cells],by simp [TV.cells]⟩⟩
theorem tcells_one:∀ (ys:List TV),∀ u∈tcells ys,u.oneCell'=true:=by
 intro ys u hu;obtain ⟨y,_,hy⟩:=List.mem_flatMap.1 hu;simp [TV.cells] at hy;rcases hy with rfl|rfl|rfl|rfl|rfl|rfl<;>rfl
def agendaR (ws:List W) (e g:Nat) (v:W) (n o:Nat) (u:U):R (T × Nat):=
 match u.gerund with
 |some l=>(behind ws e g n o).andThen fun x=>.ok (made 43 (x.1::l),x.2)
 |none=>if u.verb=false then .bad 32 v.at_ else (behind ws e g n o).andThen fun x=>.ok (made 43 [x.1,u.t],x.2)
theorem Un.gerund {s:PS} {F:List Nat} {lo hi:Nat} {w:World} {u:U} {x:UV} {G:List Nat} (h:Un s F lo hi w u x G) {l:List T} (hl:u.gerund=some l):
 2<=l.length/\l.length<=1048576/\x.gl=l.length/\x.gl<=x.gc/\∃ ys Fs b,Side (Own w) l ys Fs/\x.ga=some ⟨b,0,none⟩/\From F lo hi Fs.flatten/\s.pb ∉ Fs.flatten/\(∀ j v,(tcells ys)[j]? =some v->w.cell? ⟨b,j,none⟩=some v)/\b<w.heap.size/\b≠s.pb:=by
 obtain ⟨⟨⟨G1,G2,rfl,h1,h2⟩,h3,h4⟩,hf,hi_,hn,hle,ho⟩:=h;unfold OwnG at h2;rw [hl] at h2;obtain ⟨hne,⟨hl2,hl3⟩,he,ys,Fs,hS,⟨rfl,_⟩|⟨b,cur,hA,rfl,hb,hc1,hc2,hc3,hcells⟩⟩:=h2
 ·simp at hl2
 ·refine ⟨hl2,hl3,he,hc1,ys,Fs,b,hS,hA,⟨?_,fun c hc=>hf.mem c (by simp [hc])⟩,fun hc=>hn (by simp [hc]),hcells,(Array.getElem?_eq_some_iff.1 hb).1,fun e=>hn (by simp [e])⟩
  have:=(List.nodup_append.1 hf.nodup).2.1;exact (List.nodup_cons.1 this).2
end Pz
open Go.RowKit
namespace Pz
theorem news_row {w:World} {b:Nat} {cs:List Value} (o:Obj) (hb:b<w.heap.size) (h:∀ j v,cs[j]? =some v->w.cell? ⟨b,j,none⟩=some v):∀ j v,cs[j]? =some v->(w.alloc o).cell? ((⟨b,0,none⟩:Addr).add j)=some v:=by
 intro j v hv;have hadd:(⟨b,0,none⟩:Addr).add j=⟨b,j,none⟩:=by unfold Addr.add;split<;>simp_all
 rw [hadd];exact (cell_of_heap (Below.heap_alloc _ _ _ hb)).trans (h j v hv)
theorem tcells_single (y:TV):tcells [y]=y.cells.toList:=by simp [tcells]
theorem grown_new {w w':World} {o:Obj} (hg:(w.alloc o).grownBy w' (some w.heap.size)):Below w.heap.size w w':=
 ((qb _ _).alloc (qa _) _).grown hg (by simp) (fun k hk=>by cases hk;exact qa _)
theorem agenda_calls {s:PS} {f g:Nat} (hf:CBehind s f) (hg:g<=f) (v:W) (n o:Nat) (hD:Deep o) (hn:need s.ws n 3<=g):CJoint s 202 (fun v n o u=>agendaR s.ws s.e g v n o u) v n o:=by
 intro u x F w hP hu;have HP:=hid hP;have HU:=hid hu;have HL:=hid hu.lt;have HB:=hid (fun W (h:PAt W s n o)=>hf g hg n o W h hD hn);obtain ⟨m0,hm0,hmz0,hmz1,hmz2⟩:=info_parts info_term1;have hfl:=hu.own.flags.2;unfold ptr at HB;unfold ptr wordV;simp only [UV.val,UV.cells];clear hP hD hn hg hf hu;unfold agendaR;cases hge:u.gerund with
 |none=>
  have hga:x.ga=none:=hfl.1.2 hge;have HG:=hid (And.intro hga (hfl.2.1 hga));clear hfl hga;have he:∀ W,(binOp .eql 26 (.slice x.ga x.gl x.gc) (.slice none 0 0)).run Tryz.prog W=.ok (.bool true) W:=fun W=>by rw [HG.out.1,HG.out.2.1,HG.out.2.2];exact eqS_nil W
  dsimp only;cases hv:u.verb with
  |false=>
   rw [if_pos rfl];go_enter Tryz.func202,Tryz.ntmps202
   go_upto_region 1 with fail
   generalize hW:World.alloc _ _=w0;obtain ⟨hS,hXW,hXU,hU⟩:=frame HP.out v HU.out w0 hW.symm;have S0:=hid hS;have XW0:=hid hXW;have XU0:=hid hXU;have U0:=hid hU;clear hW hS hXW hXU hU;obtain ⟨xu0c0,xu0c1,xu0c2,xu0c3,xu0c4,xu0c5,xu0c6,xu0c7,xu0c8⟩:=XU0.box.ru x rfl;have xu0cf:=XU0.box.fz;have xu0cl:=XU0.box.lt;obtain ⟨xw0c0,xw0c1,xw0c2⟩:=XW0.box.rv v rfl;have xw0cf:=XW0.box.fz;have xw0cl:=XW0.box.lt;go_wp2_with (first
    |(go_at_call 27;refine (wrong_calls _ _).mono ?_;rintro e w9 ⟨rfl,rfl⟩)
    |(go_at_call 126;refine (verb_is hv x _ _ (U0.later (by go_grown)).own).mono ?_;rintro e w1 ⟨rfl,hb⟩;have hb0:=hb;have hb:=Start.then S0.out hb (by go_grown);have S1:=hid (S0.later hb);have U1:=hid (U0.later hb);have XW1:=hid (XW0.later hb);obtain ⟨xw1c0,xw1c1,xw1c2⟩:=XW1.box.rv v rfl;have xw1cf:=XW1.box.fz;have xw1cl:=XW1.box.lt;clear hb hb0))
   all_goals exact ⟨rfl,rfl,S1.away⟩
  |true=>
   rw [if_neg (by simp)];cases hr:behind s.ws s.e g n o with
   |bad c p=>
    rw [hr] at HB;clear hr;go_enter Tryz.func202,Tryz.ntmps202
    go_upto_region 1 with fail
    generalize hW:World.alloc _ _=w0;obtain ⟨hS,hXW,hXU,hU⟩:=frame HP.out v HU.out w0 hW.symm;have S0:=hid hS;have XW0:=hid hXW;have XU0:=hid hXU;have U0:=hid hU;clear hW hS hXW hXU hU;obtain ⟨xu0c0,xu0c1,xu0c2,xu0c3,xu0c4,xu0c5,xu0c6,xu0c7,xu0c8⟩:=XU0.box.ru x rfl;have xu0cf:=XU0.box.fz;have xu0cl:=XU0.box.lt;go_wp2_with (first
     |(go_at_call 198;refine (HB.out _ (S1.at_.later (by go_grown))).mono ?_;intro e w9 hp;replace hp:=PT.from S1.out (by go_grown) hp;obtain ⟨rfl,hA⟩:=hp)
     |(go_at_call 126;refine (verb_is hv x _ _ (U0.later (by go_grown)).own).mono ?_;rintro e w1 ⟨rfl,hb⟩;have hb0:=hb;have hb:=Start.then S0.out hb (by go_grown);have S1:=hid (S0.later hb);have U1:=hid (U0.later hb);have XU1:=hid (XU0.later hb);obtain ⟨xu1c0,xu1c1,xu1c2,xu1c3,xu1c4,xu1c5,xu1c6,xu1c7,xu1c8⟩:=XU1.box.ru x rfl;have xu1cf:=XU1.box.fz;have xu1cl:=XU1.box.lt;clear hb hb0))
    all_goals exact ⟨rfl,rfl,S1.away.next hA⟩
   |ok r=>
    obtain ⟨t,m⟩:=r;rw [hr] at HB;clear hr;go_enter Tryz.func202,Tryz.ntmps202
    go_upto_region 1 with fail
    generalize hW:World.alloc _ _=w0;obtain ⟨hS,hXW,hXU,hU⟩:=frame HP.out v HU.out w0 hW.symm;have S0:=hid hS;have XW0:=hid hXW;have XU0:=hid hXU;have U0:=hid hU;clear hW hS hXW hXU hU;obtain ⟨xu0c0,xu0c1,xu0c2,xu0c3,xu0c4,xu0c5,xu0c6,xu0c7,xu0c8⟩:=XU0.box.ru x rfl;have xu0cf:=XU0.box.fz;have xu0cl:=XU0.box.lt;go_upto_region 6 with (first
     |(go_at_call 126;refine (verb_is hv x _ _ (U0.later (by go_grown)).own).mono ?_;rintro e w1 ⟨rfl,hb⟩;have hb0:=hb;have hb:=Start.then S0.out hb (by go_grown);have S1:=hid (S0.later hb);have U1:=hid (U0.later hb);have XU1:=hid (XU0.later hb);obtain ⟨xu1c0,xu1c1,xu1c2,xu1c3,xu1c4,xu1c5,xu1c6,xu1c7,xu1c8⟩:=XU1.box.ru x rfl;have xu1cf:=XU1.box.fz;have xu1cl:=XU1.box.lt;clear hb hb0))
    generalize hWl:World.alloc w1 _=w2;have hb2:Below w1.heap.size w1 w2:=hWl▸(qb _ _).alloc (qa _) _;have L2:=hid (show Bx s w2 w1.heap.size x.t.cells from hWl▸Bx.new S1.out x.t.cells 28);have S2:=hid (S1.later hb2);have U2:=hid (U1.later hb2);clear hWl hb2;go_wp2_with (first
     |(go_at_call 127;refine (made_calls' _ _ _ _ _).mono ?_;rintro e w9 ⟨rfl,hb⟩;have S9:=hid (S8.later hb);have N9:=hid (N8.later hb);clear hb;obtain ⟨c0,c1,c2,c3,c4,c5⟩:=S9.box.rz rfl;have cf:=S9.box.fz;have cl:=S9.box.lt;simp only [nodeV,TV.val,TV.cells])
     |(at_builtin;refine wpList_append_lies _ rfl _ _ 26 rfl w3.heap.size 28 m0 _ 6 104 Tryz.underlying26 hm0 hmz0 hmz1 hmz2 rfl (by decide) (.slice (some ⟨w3.heap.size,0,none⟩) 1 1) 1 y3.cells.toList rfl (ownsRow_one w3 y3 _) ⟨w1.heap.size,0,none⟩ 1 1 (tcells [x.t]) rfl (by simp [tcells_len]) (by rw [tcells_single];exact news_row _ L3.box.lt (fun j v hv=>L3.box.cell j v (by simpa using hv))) (tcells_one _) (by decide) (by unfold maxLen;omega) (by omega) (by simp) _ rfl ?_;intro g cap w8 hown hgrow hat hlt;have hb8:=grown_new hgrow;have S8:=hid (S3.later hb8);obtain ⟨G1,TU,-⟩:=U3.term;have N8:=hid (node_join (k:=43) ⟨by omega,by omega⟩ T3.out (Side.one TU.own) (by simpa using TU.from_) (by simpa using TU.np) U2.hi_ TU.le TU.old (by simp) (by decide) S3.at_.lt hown hb8);clear TU;clear hown hgrow hat hlt hb8)
     |(go_at_call 198;refine (HB.out _ (S2.at_.later (by go_grown))).mono ?_;intro e w3 hp;replace hp:=PT.from S2.out (by go_grown) hp;obtain ⟨y3,G3,rfl,hO,hG,hP,hA⟩:=hp;have S3:=hid (S2.moved hA hP);have T3:=hid (Tm.new S2.out hO hG (by simp) hA.size (by simp));have U3:=hid (U2.moved hA);have L3:=hid (L2.moved hA);clear hO hG hP hA;simp only [TV.val,TV.cells]))
    all_goals
     refine bodyPost_ret (v:=(nodeV 43 0 ⟨#[]⟩ (some ⟨g,0,none⟩) (1+1) cap).val) (by simp [results,Tryz.results202,nodeV,TV.val,TV.cells,c0,c1,c2,c3,c4,c5,cf,go_sem]) rfl ?_;exact N9.ends S9.out S0.box.lt HL.out _ _ _ _ _ _
 |some l=>
  have hga:x.ga≠none:=fun e=>by have:=hfl.1.1 e;rw [hge] at this;cases this
  have he:∀ W,(binOp .eql 26 (.slice x.ga x.gl x.gc) (.slice none 0 0)).run Tryz.prog W=.ok (.bool false) W:=fun W=>by
   obtain ⟨a,ha⟩:=Option.ne_none_iff_exists'.1 hga;rw [ha];exact eqS_some a _ _ W
  have HGE:=hid hge;clear hfl hga hge;dsimp only;cases hr:behind s.ws s.e g n o with
  |bad c p=>
   rw [hr] at HB;clear hr;go_enter Tryz.func202,Tryz.ntmps202
   go_upto_region 1 with fail
   generalize hW:World.alloc _ _=w0;obtain ⟨hS,hXW,hXU,hU⟩:=frame HP.out v HU.out w0 hW.symm;have S0:=hid hS;have XW0:=hid hXW;have XU0:=hid hXU;have U0:=hid hU;clear hW hS hXW hXU hU;obtain ⟨xu0c0,xu0c1,xu0c2,xu0c3,xu0c4,xu0c5,xu0c6,xu0c7,xu0c8⟩:=XU0.box.ru x rfl;have xu0cf:=XU0.box.fz;have xu0cl:=XU0.box.lt;go_wp2_with (first
    |(go_at_call 198;refine (HB.out _ (S0.at_.later (by go_grown))).mono ?_;intro e w9 hp;replace hp:=PT.from S0.out (by go_grown) hp;obtain ⟨rfl,hA⟩:=hp))
   all_goals exact ⟨rfl,rfl,S0.away.next hA⟩
  |ok r=>
   obtain ⟨t,m⟩:=r;rw [hr] at HB;clear hr;go_enter Tryz.func202,Tryz.ntmps202
   go_upto_region 1 with fail
   generalize hW:World.alloc _ _=w0;obtain ⟨hS,hXW,hXU,hU⟩:=frame HP.out v HU.out w0 hW.symm;have S0:=hid hS;have XW0:=hid hXW;have XU0:=hid hXU;have U0:=hid hU;clear hW hS hXW hXU hU;obtain ⟨xu0c0,xu0c1,xu0c2,xu0c3,xu0c4,xu0c5,xu0c6,xu0c7,xu0c8⟩:=XU0.box.ru x rfl;have xu0cf:=XU0.box.fz;have xu0cl:=XU0.box.lt;go_wp2_with (first
    |(go_at_call 127;refine (made_calls' _ _ _ _ _).mono ?_;rintro e w9 ⟨rfl,hb⟩;have S9:=hid (S8.later hb);have N9:=hid (N8.later hb);clear hb;obtain ⟨c0,c1,c2,c3,c4,c5⟩:=S9.box.rz rfl;have cf:=S9.box.fz;have cl:=S9.box.lt;simp only [nodeV,TV.val,TV.cells])
    |(at_builtin;obtain ⟨hg2,hg3,hgl,hgc,ys,Fs,b,hS,hga,hGF,hGp,hcs,hbl,hbp⟩:=U1.gerund HGE.out;have HGl:=hid hgl;clear hgl;refine wpList_append_lies _ rfl _ _ 26 rfl w1.heap.size 28 m0 _ 6 104 Tryz.underlying26 hm0 hmz0 hmz1 hmz2 rfl (by decide) (.slice (some ⟨w1.heap.size,0,none⟩) 1 1) 1 y1.cells.toList rfl (ownsRow_one w1 y1 _) ⟨b,0,none⟩ x.gl x.gc (tcells ys) (by show Value.slice x.ga x.gl x.gc=_;rw [hga]) (by rw [tcells_len,hS.ly,HGl.out]) (news_row _ hbl hcs) (tcells_one _) (by have:=HGl.out;omega) (by have:=HGl.out;unfold maxLen;omega) (by have:=HGl.out;omega) (by simp) _ rfl ?_;intro g cap w8 hown hgrow hat hlt;have hb8:=grown_new hgrow;have S8:=hid (S1.later hb8);have N8:=hid (node_join (k:=43) ⟨by omega,by omega⟩ T1.out hS hGF hGp U0.hi_ U0.le U0.old HGl.symm (by have:=HGl.out;omega) S1.at_.lt hown hb8);clear hown hgrow hat hlt hb8)
    |(go_at_call 198;refine (HB.out _ (S0.at_.later (by go_grown))).mono ?_;intro e w1 hp;replace hp:=PT.from S0.out (by go_grown) hp;obtain ⟨y1,G1,rfl,hO,hG,hP,hA⟩:=hp;have S1:=hid (S0.moved hA hP);have T1:=hid (Tm.new S0.out hO hG (by simp) hA.size (by simp));have U1:=hid (U0.moved hA);clear hO hG hP hA;simp only [TV.val,TV.cells]))
   all_goals
    refine bodyPost_ret (v:=(nodeV 43 0 ⟨#[]⟩ (some ⟨g,0,none⟩) (1+x.gl) cap).val) (by simp [results,Tryz.results202,nodeV,TV.val,TV.cells,c0,c1,c2,c3,c4,c5,cf,go_sem]) rfl ?_;exact N9.ends S9.out S0.box.lt HL.out _ _ _ _ _ _
end Pz
end Go.Proofs.YtimcmghhbdfjfaaGreatDoor
