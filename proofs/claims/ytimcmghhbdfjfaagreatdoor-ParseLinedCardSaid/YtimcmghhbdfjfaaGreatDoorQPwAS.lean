/- Package parse. -/
import Derived.Test.YtimcmghhbdfjfaaGreatDoorQPwQ
import Derived.ArgAppend
import Derived.Test.YtimcmghhbdfjfaaGreatDoorQPwM
set_option linter.unusedVariables false
set_option linter.unusedSimpArgs false
set_option maxRecDepth 100000
set_option maxHeartbeats 2000000
namespace Go.Proofs.YtimcmghhbdfjfaaGreatDoor
open Go.RowKit
namespace Pz
theorem ownsRow_zero {w:World} {base:Nat} {e:TypeId} {size n:Nat} {v:Value} {xs:List Value} (h:w.ownsRow base e size v n xs):w.ownsRow 0 e size v n xs:=by
 obtain ⟨h1,h2⟩:=h;exact ⟨h1,h2.imp id (fun ⟨g,cap,cur,a1,_,a3⟩=>⟨g,cap,cur,a1,Nat.zero_le _,a3⟩)⟩
theorem run_append_lo {P:Program} (w:World) (t ty:TypeId) (e:TypeId) (i:TypeInfo) (z:Value) (size bytes:Nat) (ht:P.underlying t=some (.slice e)) (hi:P.info? e=some i) (hz:i.zero=some z)
 (hsize:i.size=size) (hby:i.bytes=bytes) (hzs:z.cells.size=size) (hsz:0<size) (lo:Nat) (hlo:lo<=w.heap.size)
 (v:Value) (n:Nat) (xs:List Value) (hown:w.ownsRow 0 e size v n xs) (hv:Full v\/∀ b,v.ownBlock=some b->lo<=b)
 (ad:Addr) (m c:Nat) (news:List Value) (hl:news.length=m*size) (hnews:∀ j u,news[j]? =some u->w.cell? (ad.add j)=some u) (h1:∀ u∈news,u.oneCell'=true)
 (hm:0<m) (h63:n+m<=maxLen) (hbytes:(n+m)*bytes<=140737488355328):
 ∃ g cap w',(Builtin.append_ #[t,t] ty #[v,.slice (some ad) m c]).run P w=.ok (.slice (some ⟨g,0,none⟩) (n+m) cap) w'/\
  w'.ownsRow 0 e size (.slice (some ⟨g,0,none⟩) (n+m) cap) (n+m) (xs++news)/\w.grownBy w' v.ownBlock/\(v.ownBlock=some g\/g=w.heap.size)/\g<w'.heap.size/\lo<=g/\Below lo w w':=by
 have easy:(∀ b,v.ownBlock=some b->lo<=b)->∃ g cap w',(Builtin.append_ #[t,t] ty #[v,.slice (some ad) m c]).run P w=.ok (.slice (some ⟨g,0,none⟩) (n+m) cap) w'/\
  w'.ownsRow 0 e size (.slice (some ⟨g,0,none⟩) (n+m) cap) (n+m) (xs++news)/\w.grownBy w' v.ownBlock/\(v.ownBlock=some g\/g=w.heap.size)/\g<w'.heap.size/\lo<=g/\Below lo w w':=fun hb=>by
  obtain ⟨g,cap,w',hr,h2,h3,h4,h5⟩:=run_append_lies (P:=P) w t ty 0 e i z size bytes ht hi hz hsize hby hzs hsz v n xs hown ad m c news hl hnews h1 hm h63 hbytes (Nat.zero_le _) _ rfl;refine ⟨g,cap,w',hr,h2,h3,h4,h5,?_,(qb _ _).grown h3 hlo (fun k hk=>hb k hk)⟩;rcases h4 with h4|h4
  ·exact hb g h4
  ·omega
 rcases hv with hv|hv
 ·rcases hown.2 with ⟨rfl,rfl⟩|⟨g0,cap0,cur,rfl,_,hcur,hn,hc,hcs,htk⟩
  ·exact easy (fun b hb=>by cases hb)
  ·have hf:=hv _ _ _ rfl
   have holds:∀ j u,xs[j]? =some u->w.cell? ((⟨g0,0,none⟩:Addr).add j)=some u:=fun j u hu=>by
    have hj:=(qn.1 hu).1;have hadd:(⟨g0,0,none⟩:Addr).add j=⟨g0,j,none⟩:=by unfold Addr.add;split<;>simp_all
    rw [hadd,hown.cellAt j (by rw [<-hown.1];exact hj)];exact hu
   obtain ⟨v',w',hr,h2,h3⟩:=run_append_arg_grows (P:=P) w t ty e i z size bytes ht hi hz hsize hby hzs hsz ⟨g0,0,none⟩ n cap0 xs hown.1 holds ad m c news hl hnews (by omega) h63 hbytes;have hr2:=run_append_grow (P:=P) w t ty e i z ht hi hz ⟨g0,0,none⟩ n cap0 xs (by rw [hsize];exact hown.1) holds ad m c news (by rw [hsize];exact hl) hnews (by omega) (by simp only [maxLen] at h63;omega) (growslice_fits (by omega) (by rw [hby];exact hbytes));rw [hr] at hr2;obtain ⟨g,cap,rfl,hg,hlt⟩:=h2.form (by omega);refine ⟨g,cap,w',hr,ownsRow_zero h2,h3.but _,?_,hlt,by omega,(qb _ _).grown h3 hlo (fun k hk=>by cases hk)⟩
   right
   injection hr2 with hr2 _
   injection hr2 with hr2 _ _
   injection hr2 with hr2
   injection hr2 with hr2 _ _
 ·exact easy hv
theorem wpList_append_lo {P:Program} (w:World) {ops:Array Oper} {rest:List Oper} {o:Oper} {a:Act} {Q:Exit->Act->World->Prop} (hgd:o.guard=none) (s x:Operand) (t:TypeId)
 (ho:o.op=.call { callee:=.builtin .append,args:=#[s,x],argTypes:=#[t,t] })
 (e:TypeId) (i:TypeInfo) (z:Value) (size bytes:Nat) (ht:P.underlying t=some (.slice e)) (hi:P.info? e=some i) (hz:i.zero=some z)
 (hsize:i.size=size) (hby:i.bytes=bytes) (hzs:z.cells.size=size) (hsz:0<size) (lo:Nat) (hlo:lo<=w.heap.size)
 (v:Value) (n:Nat) (xs:List Value) (hs:a.eval s=v) (hown:w.ownsRow 0 e size v n xs) (hv:Full v\/∀ b,v.ownBlock=some b->lo<=b)
 (ad:Addr) (m c:Nat) (news:List Value) (hx:a.eval x=.slice (some ad) m c) (hl:news.length=m*size) (hnews:∀ j u,news[j]? =some u->w.cell? (ad.add j)=some u) (h1:∀ u∈news,u.oneCell'=true)
 (hm:0<m) (h63:n+m<=maxLen) (hbytes:(n+m)*bytes<=140737488355328)
 (h:∀ g cap w',w'.ownsRow 0 e size (.slice (some ⟨g,0,none⟩) (n+m) cap) (n+m) (xs++news)->w.grownBy w' v.ownBlock->(v.ownBlock=some g\/g=w.heap.size)->g<w'.heap.size->lo<=g->Below lo w w'->wpList P ops Q rest (a.put o.dst (.slice (some ⟨g,0,none⟩) (n+m) cap)) w'):wpList P ops Q (o::rest) a w:=
 wpList_plain hgd fun K hK=>by
  obtain ⟨g,cap,w',hr,h2,h3,h4,h5,h6,h7⟩:=run_append_lo (P:=P) w t o.type e i z size bytes ht hi hz hsize hby hzs hsz lo hlo v n xs hown hv ad m c news hl hnews h1 hm h63 hbytes;unfold Oper.wp execOp;simp only [ho,resolve,invoke,builtin,Sem.run_bind,Sem.run_pure,Result.andThen_ok,List.map_toArray,List.map_cons,List.map_nil,hs,hx,hr];exact hK _ _ (h g cap w' h2 h3 h4 h5 h6 h7)
theorem uv_one (y:UV):∀ u∈y.cells.toList,u.oneCell'=true:=by
 intro u hu;simp [UV.cells] at hu;rcases hu with rfl|rfl|rfl|rfl|rfl|rfl|rfl|rfl|rfl<;>rfl
theorem info_unit:(Tryz.prog.info? 145).map (fun i=>(i.zero,i.size,i.bytes))=some (some (.agg zeroU),9,144):=by kernel_rfl
theorem _root_.Go.Proofs.YtimcmghhbdfjfaaGreatDoor.From.sub {F H H':List Nat} {lo hi lo2 hi2:Nat} {G:List Nat} (h:From F lo hi H) (k:From H' lo2 hi2 G) (hs:∀ b∈H',b∈H) (h1:lo<=lo2) (h2:hi<=hi2):From F lo hi2 G:=
 ⟨k.nodup,fun b hb=>by
  rcases k.mem b hb with hb|hb
  ·rcases h.mem b (hs b hb) with hb|hb
   ·exact .inl hb
   ·exact .inr ⟨hb.1,by omega⟩
  ·exact .inr ⟨by omega,hb.2⟩⟩
structure FL (s:PS) (w:World) (o:Nat) (F0:List Nat) (R0:R (T × Nat)) (f n:Nat) (lv:Value) (l:List U) (wr:World):Prop where
 start:Start s w n o zeroT w.heap.size wr
 rows:∃ xs Fs,Us wr lv l xs Fs/\From F0 (w.heap.size+1) wr.heap.size (rowB lv++Fs.flatten)
 room:Full lv\/∀ b,lv.ownBlock=some b->w.heap.size+1<=b
 len:l.length<=n/\n<=s.ws.length
 ne:l≠[]\/begins s.ws n=true
 eq:∃ g,g<=f/\need s.ws n 4<=g/\fromU s.ws s.e g n o l=R0
theorem FL.step {s:PS} {w:World} {o n2:Nat} {F0:List Nat} {R0:R (T × Nat)} {f:Nat} {lv:Value} {l:List U} {xs:List UV} {Fs:List (List Nat)} {w6 w8:World} {u:U} {y:UV} {G:List Nat} {lo5 g cap:Nat}
 (hF0:∀ b∈F0,b<w.heap.size/\b≠s.pb) (S:Start s w n2 o zeroT w.heap.size w6) (L:Lo s w w.heap.size (w.heap.size+1)) (hU:Us w6 lv l xs Fs) (hF:From F0 (w.heap.size+1) lo5 (rowB lv++Fs.flatten)) (V:Un s [] lo5 w6.heap.size w6 u y G) (hlo5:w.heap.size+1<=lo5)
 (hown:w8.ownsRow 0 145 9 (.slice (some ⟨g,0,none⟩) (l.length+1) cap) (l.length+1) ((xs.flatMap fun y=>(UV.cells y).toList)++(UV.cells y).toList)) (hg:(w6.alloc (.cells y.cells 145)).grownBy w8 lv.ownBlock) (hat:lv.ownBlock=some g\/g=(w6.alloc (.cells y.cells 145)).heap.size) (hlt:g<w8.heap.size) (hgl:w.heap.size+1<=g) (hbl:Below (w.heap.size+1) (w6.alloc (.cells y.cells 145)) w8)
 (hlen:l.length+1<=n2/\n2<=s.ws.length) (heq:∃ g,g<=f/\need s.ws n2 4<=g/\fromU s.ws s.e g n2 o (l++[u])=R0):
 FL s w o F0 R0 f n2 (.slice (some ⟨g,0,none⟩) (l.length+1) cap) (l++[u]) w8:=by
 have hb7:Below w6.heap.size w6 (w6.alloc (.cells y.cells 145)):=(qb _ _).alloc (qa _) _;have hall:∀ b∈rowB lv++Fs.flatten,b<w6.heap.size:=fun b hb=>by
  have:=V.le;rcases hF.mem b hb with h|h
  ·have:=(hF0 b h).1;have:=S.away.size;omega
  ·omega
 have h7:Us (w6.alloc (.cells y.cells 145)) lv l xs Fs:=hU.kept keeper_ownU (fun b hb=>hb7.block b (hall b hb));have hs7:w6.heap.size<=(w6.alloc (.cells y.cells 145)).heap.size:=hb7.size;have hle:=V.le;have hFG:=hF.append V.from_ (qa _) V.le hlo5 (fun b hb=>by have:=(hF0 b hb).1;omega);have hst:=h7.step keeper_ownU (hF.mono (qa _) (qi hle hs7)) (V.later hb7).own (hFG.mono (qa _) hs7) (by omega) (fun b hb=>by have:=(hF0 b hb).1;omega) hown hg hat hlt;exact ⟨(S.later hb7).under L hbl,⟨_,_,hst.1,hst.2⟩,.inr (fun b hb=>by cases hb;exact hgl),by simpa using hlen,.inl (by simp),heq⟩
theorem from_end {ty:TypeId} {s:PS} {F0:List Nat} {w w7:World} {o n:Nat} {lv:Value} {Fs:List (List Nat)} {t:T} {y:TV} {G:List Nat} {lo hi:Nat} (hF0:∀ b∈F0,b<w.heap.size/\b≠s.pb) (S:Start s w n o zeroT w.heap.size w7) (hF:From F0 (w.heap.size+1) hi (rowB lv++Fs.flatten)) (hO:Own w7 t y G) (hG:From Fs.flatten lo w7.heap.size G) (hlo:w.heap.size+1<=lo) (hhi:hi<=w7.heap.size) (v0 v1 v2 v3 v4 v5:Value):
 PT ty s F0 w o (.ok (t,n)) (.returned y.val) ((((((w7.setCell ⟨w.heap.size,0,none⟩ v0).setCell ⟨w.heap.size,1,none⟩ v1).setCell ⟨w.heap.size,2,none⟩ v2).setCell ⟨w.heap.size,3,none⟩ v3).setCell ⟨w.heap.size,4,none⟩ v4).setCell ⟨w.heap.size,5,none⟩ v5):=by
 have hf:=hF.sub hG (fun b hb=>List.mem_append_right _ hb) hlo hhi;refine Held.ends ⟨hO,hf.mono (Nat.le_succ _) (qa _),S.at_,S.away,qa _,fun hb=>?_,S.rb2,S.rb3⟩ _ _ _ _ _ _;rcases hf.mem _ hb with h|h
 ·have:=(hF0 _ h).1;omega
 ·omega
theorem last_at {α:Type} {l:List α} {K:Nat} (h:l.length=K+1):l.getLast? =l[K]? :=by
 rw [List.getLast?_eq_getElem?,h];rfl
end Pz
open Go.RowKit
namespace Pz
theorem begins_is {s:PS} {n o:Nat} {b:Bool} (hb:begins s.ws n=b) (W:World) (h:PAt W s n o):Calls Tryz.prog 88 #[.pointer (some ⟨s.pb,0,none⟩)] W fun e w'=>e=.returned (.bool b)/\Below W.heap.size W w':=hb▸begins_calls s n o W h
theorem idx_meas {L:Nat} {a b:Int} (h:b<a) (h0:0<=b) (hL:b<(L:Int)):L-(intOf (.int .i64 a)).toNat<L-(intOf (.int .i64 b)).toNat:=by simp only [intOf];omega
theorem fl_lt {F0 G:List Nat} {s:PS} {w:World} {lo hi:Nat} (hF0:∀ b∈F0,b<w.heap.size/\b≠s.pb) (hF:From F0 lo hi G) (h:w.heap.size<=hi):∀ b∈G,b<hi:=fun b hb=>by
 rcases hF.mem b hb with h'|h'
 ·have:=(hF0 b h').1;omega
 ·exact h'.2
theorem fl_np {F0 G:List Nat} {s:PS} {w:World} {hi rb:Nat} (hF0:∀ b∈F0,b<w.heap.size/\b≠s.pb) (hF:From F0 (w.heap.size+1) hi G) (L:Lo s w rb (w.heap.size+1)):∀ b∈G,b≠s.pb:=fun b hb=>by
 rcases hF.mem b hb with h'|h'
 ·exact (hF0 b h').2
 ·have:=L.pb;omega
theorem from_step {s:PS} {f:Nat} (hun:CUnit s f):CFrom s (f+1):=by
 intro g hg n o v l xs Fs w hP hD hnl hus hnd hpb hne hln hfull hn;obtain ⟨m0,hm0,hmz0,hmz1,hmz2⟩:=info_parts info_unit;obtain ⟨R0,hR0⟩:∃ R0,fromU s.ws s.e g n o l=R0:=⟨_,rfl⟩;rw [hR0];have hold:∀ b∈rowB v++Fs.flatten,b<w.heap.size:=fun b hb=>by
  rcases List.mem_append.1 hb with hb|hb
  ·exact (ownsRow_lt hus.row b (mem_rowB.1 hb)).2
  ·obtain ⟨G,hG,hbG⟩:=List.mem_flatten.1 hb
   obtain ⟨i,hi⟩:=List.getElem?_of_mem hG;have hi':=(qn.1 hi).1;rw [hus.side.lf] at hi';exact (hus.side.own i l[i] (xs[i]'(by rw [hus.side.ly];exact hi')) G (by simp) (by simp) hi).lt b hbG
 have HF0:=hid (fun b hb=>And.intro (hold b hb) (fun e:b=s.pb=>hpb (e▸hb)));have HP:=hid hP;have HOk:=hid hP.ok;have HDp:=hid hD;have HUN:=hid hun;have S0:=hid (Start.new hP zeroT 28);have L0:=hid (S0.lo (ub:=w.heap.size+1) (by simp));have HL0:=hid (show FL s w o (rowB v++Fs.flatten) R0 (f+1) n v l (w.alloc (.cells zeroT 28)) from
  ⟨S0.out,⟨xs,Fs,hus.kept keeper_ownU (fun b hb=>Below.heap_alloc _ _ _ (hold b hb)),⟨hnd,fun b hb=>.inl hb⟩⟩,.inl hfull,⟨hln,hnl⟩,hne,⟨g,hg,hn,hR0⟩⟩)
 unfold ptr;clear hP hD hnl hus hnd hpb hne hln hfull hn hg hun hR0 hold;generalize rowB v++Fs.flatten=F0 at HF0 HL0 ⊢;go_enter Tryz.func89,Tryz.ntmps89
 go_wp2_with fail
 go_loopw [1] (fun lv w4=>∃ (n1:Nat) (l1:List U),FL s w o F0 R0 (f+1) n1 lv l1 w4) (fun _ w4=>s.ws.length-nextOf s.pb w4)
 case atStart=>exact ⟨n,l,HL0.out⟩
 case round=>
  obtain ⟨w4,hw4⟩:∃ w4,w4=wr:=⟨_,rfl⟩;subst hw4;obtain ⟨n1,l1,hfl⟩:=hrel;obtain ⟨xs1,Fs1,hus1,hF1⟩:=hfl.rows;obtain ⟨g1,hg1,hn1,heq⟩:=hfl.eq;have S4:=hid hfl.start;have HRw:=hid hus1;have HFr:=hid hF1;have HRoom:=hid hfl.room;have HLen1:=hid (And.intro hfl.len (show s.ws.length<=1048576 from HOk.len));have HNe:=hid hfl.ne;have HNX:=hid hfl.start.at_.nextOf;have HG1:=hid (And.intro hg1 hn1);clear hfl hus1 hF1;cases g1 with
  |zero=>unfold need at hn1;omega
  |succ g1=>
   clear hg1 hn1;rw [fromU] at heq;cases hb:begins s.ws n1 with
   |true=>
    have hlt:=begins_lt hb;rw [if_pos hb] at heq;have HBg:=hid (fun W h=>begins_is (o:=o) hb W h);have HUc:=hid (fun W (h:PAt W s n1 o)=>HUN.out g1 (by have:=HG1.out;omega) n1 o W h HDp.out hlt (by have:=HG1.out;unfold need at*;omega));have hs8:=(sound (fun i w h=>(HOk.word i w h).1) g1).unit n1 o hlt (by have:=HG1.out;unfold need at*;omega);unfold ptr at HUc;clear hb;cases hr:unit s.ws s.e g1 n1 o with
    |bad c p=>
     rw [hr] at HUc heq;have HEq:=hid heq;clear hr heq hs8;go_wp2_with (first
      |(go_at_call 103;refine (HUc.out _ (S5.at_.later (by go_grown))).mono ?_;intro e w9 hp;replace hp:=PU.from S5.out (by go_grown) hp;obtain ⟨rfl,hA⟩:=hp)
      |(go_at_call 88;refine (HBg.out _ (S4.at_.later (by go_grown))).mono ?_;rintro e w5 ⟨rfl,hb⟩;have hb0:=hb;have hb:=Start.then S4.out hb (by go_grown);have S5:=hid (S4.later hb);clear hb hb0))
     all_goals exact ⟨rfl,by rw [<-HEq.out];exact ⟨rfl,S5.away.next hA⟩⟩
    |ok r=>
     obtain ⟨u6,m6⟩:=r;rw [hr] at HUc heq hs8;have HM6:=hid (show n1<m6/\m6<=s.ws.length from hs8.2);have HEq:=hid heq;have HN1:=hid hlt;clear hr heq hs8 hlt;go_wp2_with (first
      |(go_at_call 88;refine (HBg.out _ (S4.at_.later (by go_grown))).mono ?_;rintro e w5 ⟨rfl,hb⟩;have hb0:=hb;have hb:=Start.then S4.out hb (by go_grown);have S5:=hid (S4.later hb);have HRw5:=hid (HRw.kept keeper_ownU (fun b hb'=>hb.block b (fl_lt HF0.out HFr.out S4.away.size b hb')));have HFr5:=hid (HFr.mono (qa _) hb.size);clear hb hb0)
      |(go_at_call 103;refine (HUc.out _ (S5.at_.later (by go_grown))).mono ?_;intro e w6 hp;replace hp:=PU.from S5.out (by go_grown) hp;obtain ⟨y6,G6,rfl,hO,hG,hP,hA⟩:=hp;have S6:=hid (S5.moved hA hP);have V6:=hid (Un.new S5.out hO hG (by simp) hA.size (by simp));have HRw6:=hid (HRw5.away keeper_ownU hA (fun b hb'=>⟨fl_lt HF0.out HFr5.out S5.away.size b hb',fl_np HF0.out HFr5.out L0.out b hb'⟩));have HFr6:=hid HFr5.out;clear hO hG hP hA;simp only [UV.val,UV.cells])
      |(at_builtin;refine wpList_append_lo _ rfl _ _ 143 rfl 145 m0 _ 9 144 Tryz.underlying143 hm0 hmz0 hmz1 hmz2 rfl (by decide) (w.heap.size+1) (by have:=V6.hi_;have:=V6.le;have:=S5.box.lt;simp;omega) u1 l1.length _ rfl (HRw6.row.alloc _) HRoom.out ⟨w6.heap.size,0,none⟩ 1 1 y6.cells.toList rfl (by simp [UV.cells]) (World.news_of_block (heap_new _ _)) (uv_one y6) (by decide) (by have:=HLen1.out;unfold maxLen;omega) (by have:=HLen1.out;omega) ?_;intro g cap w8 hown hgrow hat hlt hgl hbl))
     go_roundw
     case rel=>exact ⟨m6,l1++[u6],FL.step HF0.out S6.out L0.out HRw6.out HFr6.out V6.out (by have:=S5.box.lt;omega) hown hgrow hat hlt hgl hbl (by have:=HLen1.out;have:=HM6.out;omega) ⟨g1,by have:=HG1.out;omega,by have:=HG1.out;have:=HM6.out;unfold need at*;omega,HEq.out⟩⟩
     case measure=>
      have hst:=FL.step (f:=f+1) HF0.out S6.out L0.out HRw6.out HFr6.out V6.out (by have:=S5.box.lt;omega) hown hgrow hat hlt hgl hbl (by have:=HLen1.out;have:=HM6.out;omega) ⟨g1,by have:=HG1.out;omega,by have:=HG1.out;have:=HM6.out;unfold need at*;omega,HEq.out⟩;rw [hst.start.at_.nextOf,HNX.out];have:=HM6.out;have:=HN1.out;omega
   |false=>
    rw [if_neg (by rw [hb];simp)] at heq;have hne1:l1≠[]:=HNe.resolve_right (by rw [hb];simp);obtain ⟨K,hK⟩:∃ K,l1.length=K+1:=⟨l1.length-1,by have:=List.length_pos_iff.2 hne1;omega⟩;obtain ⟨u,hu⟩:∃ u,l1[K]? =some u:=⟨_,List.getElem?_eq_getElem (by omega)⟩;rw [last_at hK,hu] at heq;dsimp only at heq;rw [show l1.length-1=K from by omega] at heq;obtain ⟨x,G,gb,cap,hx,hG,hO,hv,hc1,hc2,hgb,hcells⟩:=us_cell HRw.out hu;subst hv;have HBg:=hid (fun W h=>begins_is (o:=o) hb W h);have HO:=hid (fun W (hb:Below w4.heap.size w4 W)=>hO.kept (fun b hb'=>hb.block b (hO.lt b hb')));have HC:=hid (fun W (hb:Below w4.heap.size w4 W) (q:Nat) (c:Value) (hq:x.cells[q]? =some c)=>show W.cell? ⟨gb,K*9+q,none⟩=some c from (cell_of_heap (hb.block _ hgb)).trans (hcells q c hq));have HAt:=hid hO.at_;have HU:=hid (And.intro hu (And.intro hK hgb));have hw1:wrap64 (K:Int)=K:=wrap_nat (by have:=HLen1.out;omega);have hw2:wrap64 ((l1.length:Int)-1)=K:=by rw [hK];have:=HLen1.out;unfold wrap64;omega
    have hlt:(K:Int)<(l1.length:Int):=by omega
    have hlt':K<l1.length:=by omega
    have HNd:=hid (List.nodup_append.1 HFr.nodup).2.1;clear hcells hc1 hc2 hO hx hG hne1 hb hu;cases hnn:u.noun with
    |true=>
     rw [if_pos hnn] at heq;have HSn:=hid (fun W (hU:Us W (.slice (some ⟨gb,0,none⟩) l1.length cap) l1 xs1 Fs1) (hold:∀ b∈Fs1.flatten,b<W.heap.size)=>sentence_calls (.slice (some ⟨gb,0,none⟩) l1.length cap) l1 xs1 Fs1 W hU HNd.out (by have:=HLen1.out;omega) K HU.out.2.1 u HU.out.1 hold);clear hK hgb;cases hr:sentenceL l1 K u.t with
     |bad c p=>
      rw [hr] at HSn heq;have HEq:=hid heq;clear hr heq;go_wp2_with (first
       |(go_at_call 105;refine (HSn.out _ HRw6.out (fun b hb=>fl_lt HF0.out HFr6.out S6.away.size b (List.mem_append_right _ hb))).mono ?_;intro e w7 hp;obtain ⟨rfl,hb⟩:=hp;have S7:=hid (S6.later hb))
       |(go_at_call 104;refine (noun_is hnn x _ _ (HO.out _ (HB5.trans ((show Below w5.heap.size w5 _ from by go_grown).mono HB5.size)))).mono ?_;rintro e w6 ⟨rfl,hb⟩;have hb0:=hb;have hb:=Start.then S5.out hb (by go_grown);have S6:=hid (S5.later hb);have HB56:=hid hb;have HRw6:=hid (HRw5.kept keeper_ownU (fun b hb'=>hb.block b (fl_lt HF0.out HFr5.out S5.away.size b hb')));have HFr6:=hid (HFr5.mono (qa _) hb.size);clear hb hb0)
       |(go_at_call 88;refine (HBg.out _ (S4.at_.later (by go_grown))).mono ?_;rintro e w5 ⟨rfl,hb⟩;have hb0:=hb;have hb:=Start.then S4.out hb (by go_grown);have S5:=hid (S4.later hb);have HRw5:=hid (HRw.kept keeper_ownU (fun b hb'=>hb.block b (fl_lt HF0.out HFr.out S4.away.size b hb')));have HFr5:=hid (HFr.mono (qa _) hb.size);have HB5:=hid hb;have v0:=HC.out w5 HB5.out 0 (.int .i64 x.t.kind) rfl;have v1:=HC.out w5 HB5.out 1 (.string x.t.text) rfl;have v2:=HC.out w5 HB5.out 2 (.int .i64 x.t.n) rfl;have v3:=HC.out w5 HB5.out 3 (.slice x.t.sa x.t.sl x.t.sc) rfl;have v4:=HC.out w5 HB5.out 4 (.slice x.t.aa x.t.al x.t.ac) rfl;have v5:=HC.out w5 HB5.out 5 (.slice x.t.ka x.t.kl x.t.kc) rfl;have v6:=HC.out w5 HB5.out 6 (.slice x.ga x.gl x.gc) rfl;have v7:=HC.out w5 HB5.out 7 (.bool x.cap) rfl;have v8:=HC.out w5 HB5.out 8 (.int .i64 x.at_) rfl;rw [Nat.add_zero] at v0;clear hb hb0))
      all_goals exact ⟨rfl,by rw [<-HEq.out];exact ⟨rfl,S7.away⟩⟩
     |ok t=>
      rw [hr] at HSn heq;have HEq:=hid heq;clear hr heq;go_wp2_with (first
       |(go_at_call 105;refine (HSn.out _ HRw6.out (fun b hb=>fl_lt HF0.out HFr6.out S6.away.size b (List.mem_append_right _ hb))).mono ?_;intro e w7 hp;obtain ⟨y7,G7,rfl,hO,hG,hb⟩:=hp;have S7:=hid (S6.later hb);have HO7:=hid hO;have HG7:=hid hG;have HS67:=hid hb.size;clear hO hG hb;simp only [TV.val,TV.cells];obtain ⟨c0,c1,c2,c3,c4,c5⟩:=S7.box.rz rfl;have cf:=S7.box.fz;have cl:=S7.box.lt)
       |(go_at_call 104;refine (noun_is hnn x _ _ (HO.out _ (HB5.trans ((show Below w5.heap.size w5 _ from by go_grown).mono HB5.size)))).mono ?_;rintro e w6 ⟨rfl,hb⟩;have hb0:=hb;have hb:=Start.then S5.out hb (by go_grown);have S6:=hid (S5.later hb);have HB56:=hid hb;have HRw6:=hid (HRw5.kept keeper_ownU (fun b hb'=>hb.block b (fl_lt HF0.out HFr5.out S5.away.size b hb')));have HFr6:=hid (HFr5.mono (qa _) hb.size);clear hb hb0)
       |(go_at_call 88;refine (HBg.out _ (S4.at_.later (by go_grown))).mono ?_;rintro e w5 ⟨rfl,hb⟩;have hb0:=hb;have hb:=Start.then S4.out hb (by go_grown);have S5:=hid (S4.later hb);have HRw5:=hid (HRw.kept keeper_ownU (fun b hb'=>hb.block b (fl_lt HF0.out HFr.out S4.away.size b hb')));have HFr5:=hid (HFr.mono (qa _) hb.size);have HB5:=hid hb;have v0:=HC.out w5 HB5.out 0 (.int .i64 x.t.kind) rfl;have v1:=HC.out w5 HB5.out 1 (.string x.t.text) rfl;have v2:=HC.out w5 HB5.out 2 (.int .i64 x.t.n) rfl;have v3:=HC.out w5 HB5.out 3 (.slice x.t.sa x.t.sl x.t.sc) rfl;have v4:=HC.out w5 HB5.out 4 (.slice x.t.aa x.t.al x.t.ac) rfl;have v5:=HC.out w5 HB5.out 5 (.slice x.t.ka x.t.kl x.t.kc) rfl;have v6:=HC.out w5 HB5.out 6 (.slice x.ga x.gl x.gc) rfl;have v7:=HC.out w5 HB5.out 7 (.bool x.cap) rfl;have v8:=HC.out w5 HB5.out 8 (.int .i64 x.at_) rfl;rw [Nat.add_zero] at v0;clear hb hb0))
      all_goals
       refine bodyPost_ret (v:=y7.val) (by simp [results,Tryz.results89,nodeV,TV.val,TV.cells,c0,c1,c2,c3,c4,c5,cf,go_sem]) rfl ?_;rw [<-HEq.out];exact from_end HF0.out S7.out HFr6.out HO7.out HG7.out (by have:=S5.box.lt;have:=HB56.size;omega) HS67.out _ _ _ _ _ _
    |false=>
     rw [if_neg (by rw [hnn];simp)] at heq;have HRp:=hid heq;clear heq hK hgb;go_wp2_with (first
      |(go_at_call 104;refine (noun_is hnn x _ _ (HO.out _ (HB5.trans ((show Below w5.heap.size w5 _ from by go_grown).mono HB5.size)))).mono ?_;rintro e w6 ⟨rfl,hb⟩;have hb0:=hb;have hb:=Start.then S5.out hb (by go_grown);have S6:=hid (S5.later hb);have HB56:=hid hb;have HRw6:=hid (HRw5.kept keeper_ownU (fun b hb'=>hb.block b (fl_lt HF0.out HFr5.out S5.away.size b hb')));have HFr6:=hid (HFr5.mono (qa _) hb.size);clear hb hb0)
      |(go_at_call 88;refine (HBg.out _ (S4.at_.later (by go_grown))).mono ?_;rintro e w5 ⟨rfl,hb⟩;have hb0:=hb;have hb:=Start.then S4.out hb (by go_grown);have S5:=hid (S4.later hb);have HRw5:=hid (HRw.kept keeper_ownU (fun b hb'=>hb.block b (fl_lt HF0.out HFr.out S4.away.size b hb')));have HFr5:=hid (HFr.mono (qa _) hb.size);have HB5:=hid hb;have v0:=HC.out w5 HB5.out 0 (.int .i64 x.t.kind) rfl;have v1:=HC.out w5 HB5.out 1 (.string x.t.text) rfl;have v2:=HC.out w5 HB5.out 2 (.int .i64 x.t.n) rfl;have v3:=HC.out w5 HB5.out 3 (.slice x.t.sa x.t.sl x.t.sc) rfl;have v4:=HC.out w5 HB5.out 4 (.slice x.t.aa x.t.al x.t.ac) rfl;have v5:=HC.out w5 HB5.out 5 (.slice x.t.ka x.t.kl x.t.kc) rfl;have v6:=HC.out w5 HB5.out 6 (.slice x.ga x.gl x.gc) rfl;have v7:=HC.out w5 HB5.out 7 (.bool x.cap) rfl;have v8:=HC.out w5 HB5.out 8 (.int .i64 x.at_) rfl;rw [Nat.add_zero] at v0;clear hb hb0))
     go_loopw [25] (fun i w9=>∃ j:Nat,j<=l1.length/\i=.int .i64 j/\Below w6.heap.size w6 w9/\Hid (∀ (q:Nat) (a:U),q<j->l1[q]? =some a->a.noun=false)) (fun i _=>l1.length-(intOf i).toNat)
     case atStart=>exact ⟨0,Nat.zero_le _,rfl,qb _ _,hid (fun q a h=>by omega)⟩
     case round=>
      obtain ⟨w9,hw9⟩:∃ w9,w9=wr:=⟨_,rfl⟩;subst hw9;obtain ⟨j,hj,rfl,hb9,hall⟩:=hrel;have S9:=hid (S6.later hb9);have HB69:=hid hb9;by_cases hjl:j<l1.length
      ·obtain ⟨a,ha⟩:∃ a,l1[j]? =some a:=⟨_,List.getElem?_eq_getElem hjl⟩
       obtain ⟨xa,Ga,hxa,hGa,hOa,hca⟩:=us_cells HRw6.out hb9 ha;have HAj:=hid ha;have HOa:=hid (fun W (hb:Below w9.heap.size w9 W)=>hOa.kept (fun b hb'=>hb.block b (hOa.lt b hb')));have a0:=hca 0 (.int .i64 xa.t.kind) rfl;have a1:=hca 1 (.string xa.t.text) rfl;have a2:=hca 2 (.int .i64 xa.t.n) rfl;have a3:=hca 3 (.slice xa.t.sa xa.t.sl xa.t.sc) rfl;have a4:=hca 4 (.slice xa.t.aa xa.t.al xa.t.ac) rfl;have a5:=hca 5 (.slice xa.t.ka xa.t.kl xa.t.kc) rfl;have a6:=hca 6 (.slice xa.ga xa.gl xa.gc) rfl;have a7:=hca 7 (.bool xa.cap) rfl;have a8:=hca 8 (.int .i64 xa.at_) rfl;rw [Nat.add_zero] at a0;have hj1:(j:Int)<(l1.length:Int):=by omega
       have hj0:(0:Int)<=(j:Int):=by omega
       have hjw:wrap64 ((j:Int)+1)=(j:Int)+1:=by have:=HLen1.out;unfold wrap64;omega
       have hgb9:¬gb=w9.heap.size:=by have:=HU.out.2.2;have:=HB69.size;have:=HRw6.out;have:=S4.away.size;have:=HB56.size;have:=HB5.size;omega
       have hgb9':¬w9.heap.size=gb:=fun e=>hgb9 e.symm;clear hb9 ha hOa hca hxa hGa;cases hna:a.noun with
       |true=>
        have hany:l1.any U.noun=true:=List.any_eq_true.2 ⟨a,List.mem_of_getElem? HAj.out,hna⟩;have HEq:=hid (show R.bad 32 (place s.ws s.e n1)=R0 from by have:=HRp.out;rwa [if_pos hany] at this);clear hany;go_wp2_with (first
         |(go_at_call 29;refine (place_calls s _ _ _ (S11.at_.later (by go_grown))).mono ?_;rintro e w12 ⟨rfl,hb⟩;have hb0:=hb;have hb:=Start.then S11.out hb (by go_grown);have S12:=hid (S11.later hb);clear hb hb0)
         |(go_at_call 27;refine (wrong_calls _ _).mono ?_;rintro e w9 ⟨rfl,rfl⟩)
         |(go_at_call 104;refine (noun_is hna xa _ _ (HOa.out _ (by go_grown))).mono ?_;rintro e w11 ⟨rfl,hb⟩;have HB911:=hid (Below_then hb (show Below w9.heap.size w9 _ from by go_grown));have S11:=hid (S9.later HB911.out);clear hb))
        all_goals exact ⟨rfl,by rw [<-HEq.out];exact ⟨rfl,S12.away⟩⟩
       |false=>
        go_wp2_with (first
         |(go_at_call 104;refine (noun_is hna xa _ _ (HOa.out _ (by go_grown))).mono ?_;rintro e w11 ⟨rfl,hb⟩;have HB911:=hid (Below_then hb (show Below w9.heap.size w9 _ from by go_grown));have S11:=hid (S9.later HB911.out);clear hb))
        go_roundw
        case rel=>exact ⟨j+1,by omega,by go_num,Below_next HB69.out HB911.out,hid (fun q b hq hb=>by
         rcases Nat.lt_or_ge q j with h|h
         ·exact hall.out q b h hb
         ·have:q=j:=by omega
          subst this;rw [HAj.out] at hb;cases hb
          exact hna)⟩
        case measure=>exact idx_meas (by first|exact Int.lt_succ _|(rw [hjw];exact Int.lt_succ _)) hj0 hj1
      ·have hany:l1.any U.noun=false:=by
        rw [Bool.eq_false_iff];intro h;obtain ⟨a,ha,hna⟩:=List.any_eq_true.1 h;obtain ⟨q,hq⟩:=List.getElem?_of_mem ha;have:=hall.out q a (by have:=(qn.1 hq).1;omega) hq;rw [this] at hna;cases hna
       have heq:=HRp.out;rw [if_neg (by rw [hany];simp)] at heq;have HRw9:=hid (HRw6.kept keeper_ownU (fun b hb'=>hb9.block b (fl_lt HF0.out HFr6.out S6.away.size b hb')));have HFr9:=hid (HFr6.mono (qa _) hb9.size);have HTn:=hid (fun W (hU:Us W (.slice (some ⟨gb,0,none⟩) l1.length cap) l1 xs1 Fs1) (hold:∀ b∈Fs1.flatten,b<W.heap.size)=>train_calls (.slice (some ⟨gb,0,none⟩) l1.length cap) l1 xs1 Fs1 W hU HNd.out (by have:=HLen1.out;omega) K HU.out.2.1 u HU.out.1 hold);clear hany hall hb9;have hR2:(trainR l1 K u).andThen (fun t=>R.ok (t,n1))=R0:=by
        unfold trainR;cases hcp:u.cap with
        |true=>rw [if_pos rfl];rwa [hcp,if_pos rfl] at heq
        |false=>rw [if_neg (by simp)];rwa [hcp,if_neg (by simp)] at heq
       clear heq;cases hr:trainR l1 K u with
       |bad c p=>
        rw [hr] at HTn hR2;have HEq:=hid hR2;clear hr hR2;go_wp2_with (first
         |(go_at_call 106;refine (HTn.out _ HRw9.out (fun b hb=>fl_lt HF0.out HFr9.out S9.away.size b (List.mem_append_right _ hb))).mono ?_;intro e w7 hp;obtain ⟨rfl,hb⟩:=hp;have S7:=hid (S9.later hb)))
        all_goals exact ⟨rfl,by rw [<-HEq.out];exact ⟨rfl,S7.away⟩⟩
       |ok t=>
        rw [hr] at HTn hR2;have HEq:=hid hR2;clear hr hR2;go_wp2_with (first
         |(go_at_call 106;refine (HTn.out _ HRw9.out (fun b hb=>fl_lt HF0.out HFr9.out S9.away.size b (List.mem_append_right _ hb))).mono ?_;intro e w7 hp;obtain ⟨y7,G7,rfl,hO,hG,hb⟩:=hp;have S7:=hid (S9.later hb);have HO7:=hid hO;have HG7:=hid hG;have HS67:=hid hb.size;clear hO hG hb;simp only [TV.val,TV.cells];obtain ⟨c0,c1,c2,c3,c4,c5⟩:=S7.box.rz rfl;have cf:=S7.box.fz;have cl:=S7.box.lt))
        all_goals
         refine bodyPost_ret (v:=y7.val) (by simp [results,Tryz.results89,nodeV,TV.val,TV.cells,c0,c1,c2,c3,c4,c5,cf,go_sem]) rfl ?_;rw [<-HEq.out];exact from_end HF0.out S7.out HFr9.out HO7.out HG7.out (by have:=S5.box.lt;have:=HB56.size;have:=HB69.size;omega) HS67.out _ _ _ _ _ _
end Pz
open Go.RowKit
namespace Pz
def nodeCs (k:Int) (kv:Value):Array Value:=#[.int .i64 k,.string ⟨#[]⟩,.int .i64 0,.slice none 0 0,.slice none 0 0,kv]
structure Nb (s:PS) (tb lo:Nat) (k:Int) (kv:Value) (l:List T) (wr:World):Prop where
 box:Boxd wr tb (nodeCs k kv)
 rows:∃ ys Fs,Kids wr kv l ys Fs/\From [] lo wr.heap.size (rowB kv++Fs.flatten)/\tb ∉ rowB kv++Fs.flatten
 room:Full kv\/∀ b,kv.ownBlock=some b->tb+1<=b
 le:lo<=tb+1
 pb:s.pb<lo
 np:tb≠s.pb
theorem From.lt0 {lo hi:Nat} {G:List Nat} (h:From [] lo hi G):∀ b∈G,lo<=b/\b<hi:=fun b hb=>(h.mem b hb).resolve_left (by simp)
theorem Nb.later {s:PS} {tb lo:Nat} {k:Int} {kv:Value} {l:List T} {wr w':World} (h:Nb s tb lo k kv l wr) (hb:Below wr.heap.size wr w'):Nb s tb lo k kv l w':=by
 obtain ⟨ys,Fs,h1,h2,h3⟩:=h.rows;exact ⟨h.box.later hb,⟨ys,Fs,h1.kept keeper_own (fun b hb'=>hb.block b (From.lt0 h2 b hb').2),h2.mono (qa _) hb.size,h3⟩,h.room,h.le,h.pb,h.np⟩
theorem Nb.moved {s:PS} {tb lo:Nat} {k:Int} {kv:Value} {l:List T} {wr w':World} (h:Nb s tb lo k kv l wr) (hA:Away s.pb wr.heap.size wr w'):Nb s tb lo k kv l w':=by
 obtain ⟨ys,Fs,h1,h2,h3⟩:=h.rows;have hp:=h.pb;exact ⟨h.box.away hA h.np,⟨ys,Fs,h1.away keeper_own hA (fun b hb'=>⟨(From.lt0 h2 b hb').2,by have:=(From.lt0 h2 b hb').1;omega⟩),h2.mono (qa _) hA.size,h3⟩,h.room,h.le,h.pb,h.np⟩
theorem Nb.start {s:PS} {w:World} {n o rb:Nat} {cs:Array Value} {W:World} (h:Start s w n o cs rb W) (k:Int) (ty:TypeId):Nb s W.heap.size (W.heap.size+1) k (.slice none 0 0) [] (W.alloc (.cells (nodeCs k (.slice none 0 0)) ty)):=
 ⟨Boxd.new W (nodeCs k (.slice none 0 0)) ty,⟨[],[],Rows.nil _ _ _ _ _,⟨by simp [rowB,Value.ownBlock],fun b hb=>by simp [rowB,Value.ownBlock] at hb⟩,by simp [rowB,Value.ownBlock]⟩,.inr (fun b hb=>by cases hb),qa _,by have:=h.at_.lt;omega,by have:=h.at_.lt;omega⟩
theorem Nb.made {s:PS} {w w3 W:World} {n o rb lo hi:Nat} {cs:Array Value} {t:T} {y:TV} {G:List Nat} (S:Start s w n o cs rb w3) (V:Tm s [] lo hi w3 t y G) (hb:Below (w3.alloc (.cells y.cells 28)).heap.size (w3.alloc (.cells y.cells 28)) W) (hp:s.pb<lo) (k:Int) (ty:TypeId) {l:List T} (hl:l=[t]):
 Nb s W.heap.size lo k (.slice (some ⟨w3.heap.size,0,none⟩) 1 1) l (W.alloc (.cells (nodeCs k (.slice (some ⟨w3.heap.size,0,none⟩) 1 1)) ty)):=by
 subst hl;have hs:=hb.size;have h1:=V.hi_;have h2:=V.le;simp at hs;have hlt:∀ b∈w3.heap.size::G,lo<=b/\b<W.heap.size:=fun b hb=>by
  rcases List.mem_cons.1 hb with rfl|hb
  ·omega
  ·have:=From.lt0 V.from_ b hb;omega
 have hK:Kids (w3.alloc (.cells y.cells 28)) (.slice (some ⟨w3.heap.size,0,none⟩) 1 1) [t] [y] [G]:=
  ⟨Side.one (own_alloc V.own _),by simpa using ownsRow_zero (ownsRow_one w3 y 28)⟩
 have hrow:rowB (.slice (some ⟨w3.heap.size,0,none⟩) 1 1)++[G].flatten=w3.heap.size::G:=by simp [rowB,Value.ownBlock]
 have hw:∀ b∈w3.heap.size::G,(W.alloc (.cells (nodeCs k (.slice (some ⟨w3.heap.size,0,none⟩) 1 1)) ty)).heap[b]? =(w3.alloc (.cells y.cells 28)).heap[b]? :=fun b hb'=>by
  rw [Below.heap_alloc _ _ _ (hlt b hb').2];refine hb.block b ?_;rcases List.mem_cons.1 hb' with rfl|hb'
  ·simp
  ·have:=From.lt0 V.from_ b hb';simp;omega
 refine ⟨Boxd.new W _ ty,⟨[y],[G],hK.kept keeper_own (by rw [hrow];exact hw),?_,?_⟩,.inl (fun A n c e=>by cases e;exact qa _),by omega,hp,by have:=S.at_.lt;omega⟩
 ·rw [hrow]
  exact (V.from_.cons h1 (Nat.lt_succ_self _) (by omega) (fun c hc=>by cases hc)).mono (qa _) (by simp;omega)
 ·rw [hrow]
  exact fun hm=>by have:=(hlt _ hm).2;omega
theorem node_cell (k:Int) (kv v:Value):∀ i x,(nodeCs k v)[i]? =some x->if i=5 then x=v else (nodeCs k kv)[i]? =some x:=by
 intro i x h;unfold nodeCs at h ⊢
 match i with
 |0=>simpa using h
 |1=>simpa using h
 |2=>simpa using h
 |3=>simpa using h
 |4=>simpa using h
 |5=>simp at h;simp [h]
 |i+6=>simp at h
theorem Nb.step {s:PS} {tb lo:Nat} {k:Int} {kv:Value} {l:List T} {ys:List TV} {Fs:List (List Nat)} {w6 w8:World} {t:T} {y:TV} {G:List Nat} {lo5 hi5 g cap:Nat} (h:Nb s tb lo k kv l w6)
 (hU:Kids w6 kv l ys Fs) (hF:From [] lo lo5 (rowB kv++Fs.flatten)) (ho:tb ∉ rowB kv++Fs.flatten) (V:Tm s [] lo5 hi5 w6 t y G) (hlo5:tb<lo5)
 (hown:w8.ownsRow 0 28 6 (.slice (some ⟨g,0,none⟩) (l.length+1) cap) (l.length+1) ((ys.flatMap fun y=>(TV.cells y).toList)++(TV.cells y).toList)) (hg:(w6.alloc (.cells y.cells 28)).grownBy w8 kv.ownBlock) (hat:kv.ownBlock=some g\/g=(w6.alloc (.cells y.cells 28)).heap.size) (hlt:g<w8.heap.size) (hgl:tb+1<=g) (hbl:Below (tb+1) (w6.alloc (.cells y.cells 28)) w8):
 Nb s tb lo k (.slice (some ⟨g,0,none⟩) (l.length+1) cap) (l++[t]) (w8.setCell ⟨tb,5,none⟩ (.slice (some ⟨g,0,none⟩) (l.length+1) cap)):=by
 have hb7:Below w6.heap.size w6 (w6.alloc (.cells y.cells 28)):=(qb _ _).alloc (qa _) _;have hle:=V.le;have hhi:=V.hi_;have hlt5:=h.le;have hall:∀ b∈rowB kv++Fs.flatten,b<w6.heap.size:=fun b hb=>by have:=(From.lt0 hF b hb).2;omega
 have h7:Kids (w6.alloc (.cells y.cells 28)) kv l ys Fs:=hU.kept keeper_own (fun b hb=>hb7.block b (hall b hb));have hs7:=hb7.size;have hFG:=hF.append V.from_ (qa _) V.le (by omega) (fun b hb=>by cases hb);have hst:=h7.step keeper_own (hF.mono (qa _) (by omega)) (V.later hb7).own (hFG.mono (qa _) (by omega)) (by omega) (fun b hb=>by cases hb) hown hg hat hlt;have hbx:=(h.box.later hb7).kept (hbl.block tb (Nat.lt_succ_self _)) hbl.size;have hne:tb ∉ rowB (.slice (some ⟨g,0,none⟩) (l.length+1) cap)++(Fs++[G]).flatten:=fun hm=>by
  simp only [List.flatten_append,List.flatten_cons,List.flatten_nil,qg,List.mem_append] at hm ho;rcases hm with hm|hm|hm
  ·have he:g=tb:=by simpa [Value.ownBlock] using mem_rowB.1 hm
   omega
  ·exact ho (.inr hm)
  ·have:=(From.lt0 V.from_ _ hm).1;omega
 exact ⟨hbx.set 5 _ rfl (node_cell k kv _),⟨_,_,hst.1.kept keeper_own (fun b hb=>qh _ _ _ _ (fun e=>hne (by have e:b=tb:=e;rw [<-e];exact hb))),by have:=hst.2;simpa [World.setCell] using this,hne⟩,.inr (fun b hb=>by cases hb;exact hgl),h.le,h.pb,h.np⟩
theorem Nb.term {s:PS} {tb lo:Nat} {k:Int} {A:Option Addr} {len cap:Nat} {l:List T} {wr:World} (h:Nb s tb lo k (.slice A len cap) l wr) (hk:0<=k/\k<=100) (hl:l.length<=2199023255552):
 ∃ G,Tm s [] lo wr.heap.size wr (Pz.made k l) (nodeV k 0 ⟨#[]⟩ A len cap) G:=by
 obtain ⟨ys,Fs,h1,h2,h3⟩:=h.rows;have hR:=h1.ownR;have hcap:len<=cap/\cap<=maxLen:=by
  rcases h1.row.2 with ⟨e,_⟩|⟨g',cap',cur,e,_,_,h4,h5,_⟩
  ·cases e;exact ⟨qa _,Nat.zero_le _⟩
  ·cases e;exact ⟨h4,h5⟩
 have:=own_node (k:=k) (n:=0) (s:=⟨#[]⟩) hR (by omega) (by omega) (by omega) (by omega) (by decide) hl hcap.1 hcap.2;exact ⟨_,⟨by simpa [Pz.made] using this,h2,qa _,fun hb=>by have:=(From.lt0 h2 _ hb).1;have:=h.pb;omega,by have:=h.le;have:=h.box.lt;omega,fun b hb=>by cases hb⟩⟩
theorem Nb.form {s:PS} {tb lo:Nat} {k:Int} {kv:Value} {l:List T} {wr:World} (h:Nb s tb lo k kv l wr):∃ A cap,kv=.slice A l.length cap:=by
 obtain ⟨ys,Fs,h1,h2⟩:=h.rows;rcases h1.row.2 with ⟨e,h0⟩|⟨g',cap',cur,e,_⟩
 ·exact ⟨none,0,by rw [e,h0]⟩
 ·exact ⟨_,_,e⟩
theorem step_append_lo {P:Program} (w:World) {ops:Array Oper} {o:Oper} {a:Act} {K:Act->World->Prop} {Q:Exit->Act->World->Prop} {E:Prop} (hgd:o.guard=none) (s x:Operand) (t:TypeId)
 (ho:o.op=.call { callee:=.builtin .append,args:=#[s,x],argTypes:=#[t,t] })
 (e:TypeId) (i:TypeInfo) (z:Value) (size bytes:Nat) (ht:P.underlying t=some (.slice e)) (hi:P.info? e=some i) (hz:i.zero=some z)
 (hsize:i.size=size) (hby:i.bytes=bytes) (hzs:z.cells.size=size) (hsz:0<size) (lo:Nat) (hlo:lo<=w.heap.size)
 (v:Value) (n:Nat) (xs:List Value) (hs:a.eval s=v) (hown:w.ownsRow 0 e size v n xs) (hv:Full v\/∀ b,v.ownBlock=some b->lo<=b)
 (ad:Addr) (m c:Nat) (news:List Value) (hx:a.eval x=.slice (some ad) m c) (hl:news.length=m*size) (hnews:∀ j u,news[j]? =some u->w.cell? (ad.add j)=some u) (h1:∀ u∈news,u.oneCell'=true)
 (hm:0<m) (h63:n+m<=maxLen) (hbytes:(n+m)*bytes<=140737488355328)
 (h:∀ g cap w',w'.ownsRow 0 e size (.slice (some ⟨g,0,none⟩) (n+m) cap) (n+m) (xs++news)->w.grownBy w' v.ownBlock->(v.ownBlock=some g\/g=w.heap.size)->g<w'.heap.size->lo<=g->Below lo w w'->K (a.put o.dst (.slice (some ⟨g,0,none⟩) (n+m) cap)) w'):
 if Region.wanted o (yielded ops a.tmps)=true then Oper.wp P o a w K Q else E:=by
 have hw:Region.wanted o (yielded ops a.tmps)=true:=by simp [Region.wanted,hgd]
 rw [if_pos hw];obtain ⟨g,cap,w',hr,h2,h3,h4,h5,h6,h7⟩:=run_append_lo (P:=P) w t o.type e i z size bytes ht hi hz hsize hby hzs hsz lo hlo v n xs hown hv ad m c news hl hnews h1 hm h63 hbytes;unfold Oper.wp execOp;simp only [ho,resolve,invoke,builtin,Sem.run_bind,Sem.run_pure,Result.andThen_ok,List.map_toArray,List.map_cons,List.map_nil,hs,hx,hr];exact h g cap w' h2 h3 h4 h5 h6 h7
theorem Start.store {s:PS} {w:World} {n o rb tb:Nat} {cs:Array Value} {W:World} (h:Start s w n o cs rb W) (L:Lo s w rb tb) (k:Nat) (v:Value):Start s w n o cs rb (W.setCell ⟨tb,k,none⟩ v):=
 h.under L ((qb tb W).setCell (p:=⟨tb,k,none⟩) (qa tb) v)
theorem tv_one (y:TV):∀ u∈y.cells.toList,u.oneCell'=true:=by
 intro u hu;exact tcells_one [y] u (by rw [tcells_single];exact hu)
end Pz
end Go.Proofs.YtimcmghhbdfjfaaGreatDoor
