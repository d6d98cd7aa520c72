/- Package word. -/
import Derived.Test.YtimcmghhbdfjfaaGreatDoorQPyAA
import Derived.Deep.RegionLaw
set_option linter.unusedVariables false
set_option linter.unusedSimpArgs false
set_option maxRecDepth 100000
set_option maxHeartbeats 6000000
namespace Go.Proofs.YtimcmghhbdfjfaaGreatDoor
open Go.RowKit Go.WideMaps Go.Maps
namespace Pz
theorem step_append_string {P:Program} (w:World) {ops:Array Oper} {o:Oper} {a:Act} {K:Act->World->Prop} {Q:Exit->Act->World->Prop} {E:Prop} (hgd:o.guard=none) (sl x:Operand) (t u:TypeId)
 (ho:o.op=.call { callee:=.builtin .append,args:=#[sl,x],argTypes:=#[t,u] })
 (base:Nat) (e:TypeId) (i:TypeInfo) (ht:P.underlying t=some (.slice e)) (hu:P.underlying u=some .string) (hi:P.info? e=some i) (hz:i.zero=some (.int .u8 0))
 (hsize:i.size=1) (hby:i.bytes=1)
 (v:Value) (n:Nat) (xs:List Value) (hs:a.eval sl=v) (hown:w.ownsRow base e 1 v n xs) (s:ByteArray) (hx:a.eval x=.string s)
 (h63:n+s.size<=maxLen) (hbytes:n+s.size<=140737488355328) (hbase:base<=w.heap.size)
 (h:∀ v' w',w'.ownsRow base e 1 v' (n+s.size) (xs++Lib.strCells s)->w.grownBy w' v.ownBlock->K (a.put o.dst v') w'):
 if Region.wanted o (yielded ops a.tmps)=true then Oper.wp P o a w K Q else E:=by
 have hw:Region.wanted o (yielded ops a.tmps)=true:=by simp [Region.wanted,hgd]
 rw [if_pos hw];obtain ⟨v',w',hr,h2,h3,-⟩:=Lib.run_append_own_string (P:=P) (w:=w) base t u o.type e i ht hu hi hz hsize hby v n xs hown s h63 hbytes hbase;unfold Oper.wp execOp;simp only [ho,resolve,invoke,builtin,Sem.run_bind,Sem.run_pure,Result.andThen_ok,List.map_toArray,List.map_cons,List.map_nil,hs,hx,hr];exact h v' w' h2 h3
theorem info_u8:(Tryz.prog.info? 5).map (fun i=>(i.zero,i.size,i.bytes))=some (some (.int .u8 0),1,1):=by kernel_rfl
theorem info_word:(Tryz.prog.info? 67).map (fun i=>(i.zero,i.size,i.bytes))=some (some (.agg #[.int .i64 0,.string ⟨#[]⟩,.int .i64 0]),3,32):=by kernel_rfl
theorem row_empty {w:World} {base:Nat} {e:TypeId} {n cap:Nat} {A:Option Addr} {xs:List Value} (h:w.ownsRow base e 1 (.slice A n cap) n xs):w.ownsRow base e 1 (.slice A 0 cap) 0 []:=by
 rcases h.2 with ⟨h1,h0⟩|⟨g,cap',cur,h1,h2,h3,h4,h5,h6,h7⟩
 ·cases h1;exact ⟨rfl,.inl ⟨rfl,rfl⟩⟩
 ·cases h1;exact ⟨rfl,.inr ⟨g,cap,cur,rfl,h2,h3,Nat.zero_le _,h5,h6,by simp⟩⟩
section
variable {B:Nat} {w:World} {cb mb:Nat} {S:ByteArray} {n:Nat} {wv rv:Value} {last:Int} {vs:List W} {k:List UInt8} (h:CM B w cb mb S n wv last rv vs k)
include h
theorem CM.rowed {w':World} {v':Value} {k':List UInt8} (hg:w.grownBy w' rv.ownBlock) (hown:w'.ownsRow B 5 1 v' k'.length (Lib.strCells (bytes k'))):CM B (w'.setCell ⟨cb,5,none⟩ v') cb mb S n wv last v' vs k':=by
 obtain ⟨h1,h2,h3⟩:=h.grown hg (fun g hg'=>⟨_,row_typed h.row hg',by decide⟩);have hw:w'.ownsRow B 67 3 wv vs.length (wflat vs):=ownsRow_kept h.words (fun g hg'=>hg.block g (ownsRow_lt h.words g hg').2 (fun e=>h.w_r hg' e.symm rfl));have hm:mb≠cb:=h.m_cb;refine ⟨by simpa using h1.put 5 v' (by simp),h2.set _ _,ownsRow_kept hw (fun g hg'=>qh _ _ _ _ ((row_typed hw hg').ne h2 (by decide))),ownsRow_kept hown (fun g hg'=>qh _ _ _ _ ((row_typed hown hg').ne h2 (by decide))),ownsMap_keep h3 (qh _ _ _ _ hm),h.cb0,h.mb0⟩
theorem CM.worded {w':World} {v':Value} {vs':List W} (hg:w.grownBy w' wv.ownBlock) (hown:w'.ownsRow B 67 3 v' vs'.length (wflat vs')):CM B (w'.setCell ⟨cb,2,none⟩ v') cb mb S n v' last rv vs' k:=by
 obtain ⟨h1,h2,h3⟩:=h.grown hg (fun g hg'=>⟨_,row_typed h.words hg',by decide⟩);have hr:w'.ownsRow B 5 1 rv k.length (Lib.strCells (bytes k)):=ownsRow_kept h.row (fun g hg'=>hg.block g (ownsRow_lt h.row g hg').2 (fun e=>h.w_r e.symm hg' rfl));have hm:mb≠cb:=h.m_cb;refine ⟨by simpa using h1.put 2 v' (by simp),h2.set _ _,ownsRow_kept hown (fun g hg'=>qh _ _ _ _ ((row_typed hown hg').ne h2 (by decide))),ownsRow_kept hr (fun g hg'=>qh _ _ _ _ ((row_typed hr hg').ne h2 (by decide))),ownsMap_keep h3 (qh _ _ _ _ hm),h.cb0,h.mb0⟩
theorem CM.below {w':World} {r:Option Nat} {i:Nat} {u:Value} (hg:w.grownBy w' r) (hr:∀ g,r=some g->B<=g) (hB:B<=w.heap.size):Below B w (w'.setCell ⟨cb,i,none⟩ u):=
 ((qb B w).grown hg hB hr).setCell (p:=⟨cb,i,none⟩) h.cb0 u
theorem CM.place (m:Nat) {u:Value} (hu:u=.int .i64 (m:Int)):CM B (w.setCell ⟨cb,1,none⟩ u) cb mb S m wv last rv vs k:=by
 subst hu;exact h.set 1 _ (by simp) (by decide) h.words h.row
theorem CM.lasts {m:Int} {u:Value} (hu:u=.int .i64 m):CM B (w.setCell ⟨cb,4,none⟩ u) cb mb S n wv m rv vs k:=by
 subst hu;exact h.set 4 _ (by simp) (by decide) h.words h.row
end
def seg (S:ByteArray) (n e2:Nat):List UInt8:=((bl S).drop n).take (e2-n)
theorem seg_len {S:ByteArray} {n e2:Nat} (h1:n<=e2) (h2:e2<=S.size):(seg S n e2).length=e2-n:=by
 unfold seg;rw [List.length_take,List.length_drop,bl_len];omega
theorem seg_bytes (S:ByteArray) (n e2:Nat):bytes (seg S n e2)=S.extract n e2:=bytes_extract S n e2
theorem seg_size {S:ByteArray} {n e2:Nat} (h1:n<=e2) (h2:e2<=S.size):(S.extract n e2).size=e2-n:=by
 rw [<-seg_bytes,show (bytes (seg S n e2)).size=(seg S n e2).length from by simp [bytes,ByteArray.size],seg_len h1 h2]
theorem grown_before {a b c:World} {r:Option Nat} (h:Below a.heap.size a b) (k:b.grownBy c r):a.grownBy c r:=⟨k.os.trans h.os,k.tape.trans h.tape,k.output.trans h.output,qi h.size k.size,fun i hi hne=>(k.block i (Nat.lt_of_lt_of_le hi h.size) hne).trans (h.block i hi)⟩
theorem word_max {L:Nat} (h:L<=1048576):L+1<=maxLen/\(L+1)*32<=140737488355328:=by
 unfold maxLen;omega
theorem put_calls {B:Nat} {w:World} {cb mb:Nat} {S:ByteArray} {n:Nat} {wv rv:Value} {last:Int} {vs:List W} {k:List UInt8} (h:CM B w cb mb S n wv last rv vs k) (hl:vs.length<=1048576) (hk:∀ v,vs.getLast? =some v->v.kind=1->k≠[]) (kind:Int) (e2:Nat) (h1:n<=e2) (h2:e2<=S.size) (hS:S.size<=1048576) (hB:B<=w.heap.size):
 Calls Tryz.prog 83 #[.pointer (some ⟨cb,0,none⟩),.int .i64 kind,.int .i64 (e2:Int)] w fun e w'=>e=.returned (.tuple #[])/\(∃ wv' rv',CM B w' cb mb S e2 wv' e2 rv' (fixW vs k++[W.mk kind (seg S n e2) n]) (seg S n e2))/\Below B w w':=by
 obtain ⟨i8,hi8,hz0,hz1,hz2⟩:=info_parts info_u8;obtain ⟨iw,hiw,hy0,hy1,hy2⟩:=info_parts info_word;have HCl:=hid (close_calls h hl hk);have HL:=hid (And.intro hl hS);have HTo:=hid (And.intro h1 h2);have hn0:(0:Int)<=(n:Int):=qj _;have hn1:(n:Int)<=(e2:Int):=Int.ofNat_le.2 h1;have hn2:(e2:Int)<=(S.size:Int):=Int.ofNat_le.2 h2;have hs1:=seg_size h1 h2;have HB:=hid hB;go_enter Tryz.func83,Tryz.ntmps83
 go_upto_region 1 with (go_at_call 56;refine HCl.mono ?_;rintro e w1 ⟨rfl,hcm,hb⟩;have H1:=hid hcm;have HB1:=hid hb;clear hcm hb)
 obtain ⟨A,cap,rfl⟩:=row_forms H1.row;obtain ⟨c0,c1,c2,c3,c4,c5,cf,clt⟩:=H1.cells;have H1d:=hid (H1.later (qb w1.heap.size w1).drew);go_cut [] from 6 (fun wq=>∃ (A3:Option Addr) (cap3:Nat),CM B wq cb mb S n wv last (.slice A3 (e2-n) cap3) (fixW vs k) (seg S n e2)/\Below B w1 wq)
 case first=>
  go_region_law (refine step_append_string _ (by rfl) _ _ 79 9 (by rfl) B 5 i8 Tryz.underlying79 Tryz.underlying9 hi8 hz0 hz1 hz2 (.slice A 0 cap) 0 [] (by rfl) (row_empty H1d.row) (S.extract n e2) (by rfl) (by rw [hs1];unfold maxLen;omega) (by rw [hs1];omega) (qi HB.out HB1.size) ?_;intro v2 w2 hown hgrow;rw [hs1,Nat.zero_add,qff] at hown;obtain ⟨A3,cap3,rfl⟩:=row_forms hown;replace hgrow:w1.drew.grownBy w2 (Value.slice A k.length cap).ownBlock:=(by cases A<;>exact hgrow);have H2:=hid hown;have HG2:=hid hgrow;obtain ⟨hbx,-,-⟩:=H1d.grown hgrow (fun g hg=>⟨_,row_typed H1d.row hg,by decide⟩);have x5:=hbx.cell 5 (.slice A k.length cap) rfl;have xf:=hbx.fz;have xl:=hbx.lt;clear hown hgrow hbx)
  all_goals
   generalize hW3:World.setCell w2 _ _=w3;have hrow:w2.ownsRow B 5 1 (.slice A3 (e2-n) cap3) (seg S n e2).length (Lib.strCells (bytes (seg S n e2))):=by
    rw [seg_bytes,seg_len HTo.out.1 HTo.out.2];exact H2.out
   have H3:=hid (show CM B w3 cb mb S n wv last (.slice A3 (e2-n) cap3) (fixW vs k) (seg S n e2) from by rw [<-hW3];exact H1d.rowed HG2.out hrow);have HB3:=hid (show Below B w1 w3 from by rw [<-hW3];exact ((qb B w1).drew).trans (H1d.below HG2.out (fun g hg=>(ownsRow_lt H1d.row g hg).1) (qi HB.out HB1.size)));clear hW3 hrow H2 HG2 x5 xf xl c0 c1 c2 c3 c4 c5 cf clt;go_wp2_with fail
   go_meet
   case rel=>exact ⟨_,_,H3.out,HB3.out⟩
 case rest=>
 obtain ⟨A3,cap3,hc3,hb3⟩:=hcut;have H3:=hid hc3;have HB3:=hid hb3;clear hc3 hb3 c0 c1 c2 c3 c4 c5 cf clt;generalize wc=w3 at H3 HB3 ⊢;obtain ⟨A2,cap2,rfl⟩:=row_forms H3.words;obtain ⟨c0,c1,c2,c3,c4,c5,cf,clt⟩:=H3.cells;have HFl:=hid (fixW_len vs k);have HLm:=hid (word_max (show (fixW vs k).length<=1048576 from by rw [fixW_len];exact HL.out.1));go_upto_region 3 with fail
 go_region_law (refine step_append_lies _ (by rfl) _ _ 57 (by rfl) B 67 iw _ 3 32 Tryz.underlying57 hiw hy0 hy1 hy2 (by rfl) (by decide) (.slice A2 (fixW vs k).length cap2) (fixW vs k).length (wflat (fixW vs k)) (by rfl) (ownsRow_kept H3.words (fun b hb=>(show Below w3.heap.size w3 _ from by go_grown).block b (ownsRow_lt H3.words b hb).2)) ⟨w3.heap.size,0,none⟩ 1 1 [.int .i64 kind,.string (S.extract n e2),.int .i64 (n:Int)] (by rfl) (by rfl) (by exact World.news_of_block (heap_new _ _)) (by intro u hu;simp at hu;rcases hu with rfl|rfl|rfl<;>rfl) (by decide) HLm.out.1 HLm.out.2 (by have:=HB.out;have:=HB1.size;have:=HB3.size;simp;omega) _ rfl ?_;intro g4 cap4 w4 hown hgrow hat hlt;replace hgrow:w3.grownBy w4 (Value.slice A2 (fixW vs k).length cap2).ownBlock:=grown_before (by go_grown) hgrow;have H4:=hid hown;have HG4:=hid hgrow;obtain ⟨hbx,-,-⟩:=H3.grown hgrow (fun g hg=>⟨_,row_typed H3.words hg,by decide⟩);have x2:=hbx.cell 2 (.slice A2 (fixW vs k).length cap2) rfl;have xf:=hbx.fz;have xl:=hbx.lt;clear hown hgrow hbx hat hlt)
 all_goals
  generalize hW5:World.setCell w4 _ _=w5;have hrow5:w4.ownsRow B 67 3 (.slice (some ⟨g4,0,none⟩) ((fixW vs k).length+1) cap4) (fixW vs k++[W.mk kind (seg S n e2) n]).length (wflat (fixW vs k++[W.mk kind (seg S n e2) n])):=by
   have:=H4.out;rw [wflat_snoc,List.length_append,List.length_singleton]
   show w4.ownsRow B 67 3 _ _ (wflat (fixW vs k)++[.int .i64 kind,.string (bytes (seg S n e2)),.int .i64 (n:Int)])
   rw [seg_bytes];exact this
  have H5:=hid (show CM B w5 cb mb S n (.slice (some ⟨g4,0,none⟩) ((fixW vs k).length+1) cap4) last (.slice A3 (e2-n) cap3) (fixW vs k++[W.mk kind (seg S n e2) n]) (seg S n e2) from by rw [<-hW5];exact H3.worded HG4.out hrow5);have HB5:=hid (show Below B w3 w5 from by rw [<-hW5];exact H3.below HG4.out (fun g hg=>(ownsRow_lt H3.words g hg).1) (by have:=HB.out;have:=HB1.size;have:=HB3.size;omega));clear hW5 hrow5 H4 HG4 x2 xf xl c0 c1 c2 c3 c4 c5 cf clt;obtain ⟨c0,c1,c2,c3,c4,c5,cf,clt⟩:=H5.cells;go_wp2_with fail
  refine bodyPost_end (results_none rfl _ _ _) rfl ?_;refine ⟨rfl,⟨_,_,(H5.place e2 rfl).lasts rfl⟩,?_⟩;exact ((((HB1.trans HB3.out).trans HB5.out).setCell (p:=⟨cb,1,none⟩) H5.cb0 _).setCell (p:=⟨cb,4,none⟩) H5.cb0 _)
end Pz
open Go.RowKit Go.WideMaps Go.Maps
namespace Pz
structure CS (B:Nat) (w:World) (cb mb:Nat) (S:ByteArray) (n:Nat) (ws:List W):Prop where
 ex:∃ wv last rv vs k,CM B w cb mb S n wv last rv vs k/\fixW vs k=ws/\(∀ v,vs.getLast? =some v->v.kind=1->k≠[])/\k.length<=2*n
 len:ws.length<=n
 sz:S.size<=1048576
 le:n<=S.size
 hb:B<=w.heap.size
 vars:Vars w
 gb:2<B/\5<B
theorem CS.later {B:Nat} {w w':World} {cb mb:Nat} {S:ByteArray} {n:Nat} {ws:List W} (h:CS B w cb mb S n ws) (hb:Below w.heap.size w w'):CS B w' cb mb S n ws:=by
 obtain ⟨wv,last,rv,vs,k,h1,h2,h3⟩:=h.ex;exact ⟨⟨wv,last,rv,vs,k,h1.later hb,h2,h3⟩,h.len,h.sz,h.le,qi h.hb hb.size,h.vars.kept (hb.block _ (Nat.lt_of_lt_of_le h.gb.1 h.hb)) (hb.block _ (Nat.lt_of_lt_of_le h.gb.2 h.hb)),h.gb⟩
theorem CS.cells {B:Nat} {w:World} {cb mb:Nat} {S:ByteArray} {n:Nat} {ws:List W} (h:CS B w cb mb S n ws):w.cell? ⟨cb,0,none⟩=some (.string S)/\w.cell? ⟨cb,1,none⟩=some (.int .i64 (n:Int))/\w.cell? ⟨cb,3,none⟩=some (.map (some mb))/\(∀ o,w.frozen? ⟨cb,o,none⟩=false)/\cb<w.heap.size/\B<=cb:=by
 obtain ⟨wv,last,rv,vs,k,h1,-⟩:=h.ex;obtain ⟨c0,c1,c2,c3,c4,c5,cf,clt⟩:=h1.cells;exact ⟨c0,c1,c3,cf,clt,h1.cb0⟩
def PC (B cb mb:Nat) (S:ByteArray) (w:World) (r:R (Nat × List W)) (e:Ending) (w':World):Prop:=
 match r with
 |.ok (m,ws)=>e=.returned (.tuple #[.int .i64 0,.int .i64 0])/\CS B w' cb mb S m ws/\Below B w w'
 |.bad c p=>e=.returned (.tuple #[.int .i64 p,.int .i64 c])/\Below B w w'
theorem put_cs {B:Nat} {w:World} {cb mb:Nat} {S:ByteArray} {n:Nat} {ws:List W} (h:CS B w cb mb S n ws) (kind:Int) (e2:Nat) (h1:n<e2) (h2:e2<=S.size):
 Calls Tryz.prog 83 #[.pointer (some ⟨cb,0,none⟩),.int .i64 kind,.int .i64 (e2:Int)] w fun e w'=>e=.returned (.tuple #[])/\CS B w' cb mb S e2 (ws++[⟨kind,seg S n e2,n⟩])/\Below B w w':=by
 obtain ⟨wv,last,rv,vs,k,hc,hf,hk,-⟩:=h.ex;have hl:vs.length<=n:=by have:=h.len;rw [<-hf,fixW_len] at this;exact this
 refine (put_calls hc (by have:=h.sz;have:=h.le;omega) hk kind e2 (Nat.le_of_lt h1) h2 h.sz h.hb).mono ?_;rintro e w' ⟨rfl,⟨wv',rv',hc'⟩,hb⟩;refine ⟨rfl,⟨⟨wv',_,rv',_,_,hc',?_,fun v hv _=>?_,?_⟩,?_,h.sz,h2,qi h.hb hb.size,h.vars.kept (hb.block _ h.gb.1) (hb.block _ h.gb.2),h.gb⟩,hb⟩
 ·rw [fixW_put (fixW vs k) ⟨kind,seg S n e2,n⟩,hf]
 ·intro he
  have:=seg_len (S:=S) (Nat.le_of_lt h1) h2;rw [he] at this;simp at this;omega
 ·rw [seg_len (Nat.le_of_lt h1) h2]
  omega
 ·have:=h.len
  simp;omega
theorem put_at {B:Nat} {w:World} {cb mb:Nat} {S:ByteArray} {n:Nat} {ws:List W} (h:CS B w cb mb S n ws) (kind:Int) (e2:Nat) (h1:n<e2) (h2:e2<=S.size) {ev:Int} (hev:ev=(e2:Int)):
 Calls Tryz.prog 83 #[.pointer (some ⟨cb,0,none⟩),.int .i64 kind,.int .i64 ev] w fun e w'=>e=.returned (.tuple #[])/\CS B w' cb mb S e2 (ws++[⟨kind,seg S n e2,n⟩])/\Below B w w':=hev▸put_cs h kind e2 h1 h2
theorem seg_snoc {S:ByteArray} {n e2:Nat} (h1:n<=e2) (h2:e2<S.size):seg S n (e2+1)=seg S n e2++[S[e2]]:=by
 unfold seg;rw [show e2+1-n=(e2-n)+1 from by omega,List.take_add_one,List.getElem?_drop,show n+(e2-n)=e2 from by omega,bl_get S e2 h2];rfl
theorem bl_bytes (l:List UInt8):bl (bytes l)=l:=by simp [bytes,bl]
theorem bytes_app (a b:List UInt8):bytes a++bytes b=bytes (a++b):=by
 apply ByteArray.ext;rw [ByteArray.data_append];simp [bytes]
theorem not_big {m:Nat} (h:m<=1048576):¬9223372036854775807<m+1:=Nat.not_lt.2 (qi (Nat.succ_le_succ h) (by decide))
theorem u8_46 {c:UInt8} (h:(c.toNat:Int)=46):c.toNat=(46:UInt8).toNat:=by
 have h46:(46:UInt8).toNat=46:=rfl;omega
theorem take_seg (S:ByteArray) (n m:Nat):((bl S).drop n).take m=seg S n (n+m):=by
 unfold seg;rw [Nat.add_sub_cancel_left]
theorem drop_at (S:ByteArray) (n m:Nat):((bl S).drop n)[m]? =(bl S)[n+m]? :=by rw [List.getElem?_drop]
theorem prim_is {s:ByteArray} {b:Bool} (hb:T.isPrim (bl s)=b) (w:World) (hs:s.size<=maxLen):Calls Tryz.prog 60 #[.string s] w fun e w'=>e=.returned (.tuple #[.int .i64 (T.primNo (bl s)),.bool b])/\Below w.heap.size w w':=hb▸prim_calls s w hs
theorem wrap_add {n S k:Nat} (h:n<=S) (hS:S<=1048576) (hk:k<=4):wrap64 ((n:Int)+(k:Int))=(n:Int)+(k:Int):=by
 unfold wrap64;omega
theorem u8_ne {c:UInt8} {k:Nat} {d:UInt8} (h:¬c=d) (hk:d.toNat=k:=by rfl):((c.toNat:Int)==(k:Int))=false:=by
 simp only [beq_eq_false_iff_ne,ne_eq];exact fun e=>h (UInt8.toNat_inj.1 (by omega))
theorem seg_one {S:ByteArray} {n:Nat} (h:n<S.size):seg S n (n+1)=[S[n]]:=by
 rw [seg_snoc (qa n) h];simp [seg]
theorem name_calls {B:Nat} {w:World} {cb mb:Nat} {S:ByteArray} {n:Nat} {ws:List W} (h:CS B w cb mb S n ws) (hn:n<S.size) (hlet:alnum S[n]=true):
 Calls Tryz.prog 86 #[.pointer (some ⟨cb,0,none⟩),.int .u8 (S[n].toNat:Int)] w (PC B cb mb S w (name S[n] ((bl S).drop n) n ws)):=by
 obtain ⟨R0,hR0⟩:∃ R0,name S[n] ((bl S).drop n) n ws=R0:=⟨_,rfl⟩;rw [hR0];unfold name at hR0;dsimp only at hR0;have hsp:=span_at (p:=alnum) hn;rw [hlet,if_pos rfl] at hsp;have hspl:span alnum ((bl S).drop n)<=S.size-n:=by have:=span_le alnum ((bl S).drop n);rwa [List.length_drop,bl_len] at this
 obtain ⟨m,hm⟩:∃ m,m=span alnum ((bl S).drop n):=⟨_,rfl⟩;have HM:=hid hm;rw [<-hm] at hR0 hsp hspl;rw [take_seg,drop_at] at hR0;obtain ⟨e2,he2⟩:∃ e2,e2=n+m:=⟨_,rfl⟩;rw [<-he2] at hR0;have HE:=hid he2;have HN:=hid (show n<e2/\e2<=S.size from by omega);have hsz:=h.sz;have H:=hid h;obtain ⟨c0,c1,c3,cf,clt,hcb⟩:=h.cells;have HRun:=hid (fun W (hc:W.cell? ⟨cb,0,none⟩=some (.string S))=>run_calls S hsz n cb (Nat.le_of_lt hn) W hc);rw [<-hm,<-he2] at HRun;have hs1:(S.extract n e2).size=m:=by rw [seg_size (by omega) (by omega)];omega
 have hn0:(0:Int)<=(n:Int):=qj _;have hn1:(n:Int)<=(e2:Int):=Int.ofNat_le.2 (by omega);have hn2:(e2:Int)<=(S.size:Int):=Int.ofNat_le.2 (by omega);have he0:(0:Int)<=(e2:Int):=qj _;have HSm:=hid (fun W=>small_calls S[n] W);clear hsp hspl hm he2 h;by_cases hdot:∃ hq:e2<S.size,S[e2]=46
 ·obtain ⟨hq,hdot⟩:=hdot
  have hd1:(e2:Int)<(S.size:Int):=Int.ofNat_lt.2 hq;have hd2:(S[e2]==46)=true:=by simp [hdot]
  have hd3:((S[e2].toNat:Int)==46)=true:=by rw [hdot];rfl
  have HS2:=hid (show seg S n (e2+1)=seg S n e2++[46] from by rw [seg_snoc (by have:=HN.out;omega) hq,hdot]);rw [bl_get S e2 hq,hdot,if_pos rfl] at hR0;have hcat:S.extract n e2++(⟨#[46]⟩:ByteArray)=bytes (seg S n e2++[46]):=by rw [<-bytes_app,seg_bytes];rfl
  have hcl:(bytes (seg S n e2++[46])).size<=maxLen:=by
   rw [show (bytes (seg S n e2++[46])).size=(seg S n e2++[46]).length from by simp [bytes,ByteArray.size],List.length_append,seg_len (by have:=HN.out;omega) (by have:=HN.out;omega)];exact qi (show (e2-n)+1<=1048577 from Nat.succ_le_succ (qi (Nat.sub_le _ _) (qi HN.out.2 hsz))) (by unfold maxLen;decide)
  have hw1:wrap64 ((e2:Int)+1)=(e2:Int)+1:=wrap_succ (by omega);have hm1:¬9223372036854775807<m+1:=not_big (qi (Nat.le_add_left m n) (qi (Nat.le_of_eq HE.symm) (qi HN.out.2 hsz)));have HQ:=hid hq;clear hdot;cases hp:T.isPrim (seg S n e2++[46]) with
  |true=>
   rw [if_pos hp] at hR0;have HEq:=hid hR0;have HPr:=hid (fun W=>prim_is (s:=S.extract n e2++(⟨#[46]⟩:ByteArray)) (b:=true) (by rw [hcat,bl_bytes];exact hp) W (by rw [hcat];exact hcl));clear hp hR0 hcl hcat;go_enter Tryz.func86,Tryz.ntmps86
   go_upto_region 2 with (go_at_call 102;refine (HRun.out _ c0).mono ?_;rintro e w1 ⟨rfl,hb⟩;have H1:=hid (H.later hb);have HB1:=hid (show Below B w w1 from hb.mono H.hb);clear hb)
   clear c0 c1 c3 cf clt hcb;obtain ⟨c0,c1,c3,cf,clt,hcb⟩:=H1.cells;go_upto_region 3 with fail
   go_quiet (fail);generalize hWq:World.drewN w1 _=w2;have hbq:Below w1.heap.size w1 w2:=hWq▸below_drewN (qb _ _) _;have H2:=hid (H1.later hbq);have HB2:=hid (show Below B w w2 from HB1.trans (hbq.mono H1.hb));clear hbq hWq c0 c1 c3 cf clt hcb;obtain ⟨c0,c1,c3,cf,clt,hcb⟩:=H2.cells;go_wp2_with (first
    |(go_at_call 60;refine (HPr.out _).mono ?_;rintro e w3 ⟨rfl,hb⟩;have H3:=hid (H2.later hb);have HB3:=hid (show Below B w w3 from HB2.trans (hb.mono H2.hb));obtain ⟨c0,c1,c3,cf,clt,hcb⟩:=H3.cells;clear hb)
    |(go_at_call 83;refine (put_at H3.out 4 (e2+1) (by have:=HN.out;omega) (by have:=HN.out;omega) (by first|rfl|omega)).mono ?_;rintro e w4 ⟨rfl,hcs,hb⟩;have HC4:=hid hcs;have HB4:=hid (show Below B w w4 from HB3.trans hb);clear hcs hb))
   all_goals
    refine bodyPost_ret (v:=.tuple #[.int .i64 0,.int .i64 0]) (by simp [results,Tryz.results86,go_sem]) rfl ?_;rw [<-HEq.out];exact ⟨rfl,by have:=HC4.out;rwa [HS2.out] at this,HB4.out⟩
  |false=>
   rw [if_neg (by rw [hp];simp)] at hR0;have HPr:=hid (fun W=>prim_is (s:=S.extract n e2++(⟨#[46]⟩:ByteArray)) (b:=false) (by rw [hcat,bl_bytes];exact hp) W (by rw [hcat];exact hcl));clear hp hcl hcat;by_cases k0:seg S n e2=[105,102]
   ·have y0:((S.extract n e2).toList==[105,102])=true:=by rw [<-seg_bytes,text_beq];simp [k0]
    rw [if_pos (by rw [k0];decide)] at hR0;have HEq:=hid hR0;clear hR0 k0;go_enter Tryz.func86,Tryz.ntmps86
    go_upto_region 2 with (go_at_call 102;refine (HRun.out _ c0).mono ?_;rintro e w1 ⟨rfl,hb⟩;have H1:=hid (H.later hb);have HB1:=hid (show Below B w w1 from hb.mono H.hb);clear hb)
    clear c0 c1 c3 cf clt hcb;obtain ⟨c0,c1,c3,cf,clt,hcb⟩:=H1.cells;go_upto_region 3 with fail
    go_quiet (fail);generalize hWq:World.drewN w1 _=w2;have hbq:Below w1.heap.size w1 w2:=hWq▸below_drewN (qb _ _) _;have H2:=hid (H1.later hbq);have HB2:=hid (show Below B w w2 from HB1.trans (hbq.mono H1.hb));clear hbq hWq c0 c1 c3 cf clt hcb;obtain ⟨c0,c1,c3,cf,clt,hcb⟩:=H2.cells;go_wp2_with (first
     |(go_at_call 60;refine (HPr.out _).mono ?_;rintro e w3 ⟨rfl,hb⟩;have H3:=hid (H2.later hb);have HB3:=hid (show Below B w w3 from HB2.trans (hb.mono H2.hb));obtain ⟨c0,c1,c3,cf,clt,hcb⟩:=H3.cells;clear hb)
     |(go_at_call 83;refine (put_at H3.out 7 (e2+1) (by have:=HN.out;omega) (by have:=HN.out;omega) (by first|rfl|omega)).mono ?_;rintro e w4 ⟨rfl,hcs,hb⟩;have HC4:=hid hcs;have HB4:=hid (show Below B w w4 from HB3.trans hb);clear hcs hb))
    all_goals
     refine bodyPost_ret (v:=.tuple #[.int .i64 0,.int .i64 0]) (by simp [results,Tryz.results86,go_sem]) rfl ?_;rw [<-HEq.out];exact ⟨rfl,by have:=HC4.out;rwa [HS2.out] at this,HB4.out⟩
   have y0:((S.extract n e2).toList==[105,102])=false:=by rw [<-seg_bytes,text_beq];simp [k0]
   by_cases k1:seg S n e2=[100,111]
   ·have y1:((S.extract n e2).toList==[100,111])=true:=by rw [<-seg_bytes,text_beq];simp [k1]
    rw [if_pos (by rw [k1];decide)] at hR0;have HEq:=hid hR0;clear hR0 k0 k1;go_enter Tryz.func86,Tryz.ntmps86
    go_upto_region 2 with (go_at_call 102;refine (HRun.out _ c0).mono ?_;rintro e w1 ⟨rfl,hb⟩;have H1:=hid (H.later hb);have HB1:=hid (show Below B w w1 from hb.mono H.hb);clear hb)
    clear c0 c1 c3 cf clt hcb;obtain ⟨c0,c1,c3,cf,clt,hcb⟩:=H1.cells;go_upto_region 3 with fail
    go_quiet (fail);generalize hWq:World.drewN w1 _=w2;have hbq:Below w1.heap.size w1 w2:=hWq▸below_drewN (qb _ _) _;have H2:=hid (H1.later hbq);have HB2:=hid (show Below B w w2 from HB1.trans (hbq.mono H1.hb));clear hbq hWq c0 c1 c3 cf clt hcb;obtain ⟨c0,c1,c3,cf,clt,hcb⟩:=H2.cells;go_wp2_with (first
     |(go_at_call 60;refine (HPr.out _).mono ?_;rintro e w3 ⟨rfl,hb⟩;have H3:=hid (H2.later hb);have HB3:=hid (show Below B w w3 from HB2.trans (hb.mono H2.hb));obtain ⟨c0,c1,c3,cf,clt,hcb⟩:=H3.cells;clear hb)
     |(go_at_call 83;refine (put_at H3.out 7 (e2+1) (by have:=HN.out;omega) (by have:=HN.out;omega) (by first|rfl|omega)).mono ?_;rintro e w4 ⟨rfl,hcs,hb⟩;have HC4:=hid hcs;have HB4:=hid (show Below B w w4 from HB3.trans hb);clear hcs hb))
    all_goals
     refine bodyPost_ret (v:=.tuple #[.int .i64 0,.int .i64 0]) (by simp [results,Tryz.results86,go_sem]) rfl ?_;rw [<-HEq.out];exact ⟨rfl,by have:=HC4.out;rwa [HS2.out] at this,HB4.out⟩
   have y1:((S.extract n e2).toList==[100,111])=false:=by rw [<-seg_bytes,text_beq];simp [k1]
   by_cases k2:seg S n e2=[101,108,115,101]
   ·have y2:((S.extract n e2).toList==[101,108,115,101])=true:=by rw [<-seg_bytes,text_beq];simp [k2]
    rw [if_pos (by rw [k2];decide)] at hR0;have HEq:=hid hR0;clear hR0 k0 k1 k2;go_enter Tryz.func86,Tryz.ntmps86
    go_upto_region 2 with (go_at_call 102;refine (HRun.out _ c0).mono ?_;rintro e w1 ⟨rfl,hb⟩;have H1:=hid (H.later hb);have HB1:=hid (show Below B w w1 from hb.mono H.hb);clear hb)
    clear c0 c1 c3 cf clt hcb;obtain ⟨c0,c1,c3,cf,clt,hcb⟩:=H1.cells;go_upto_region 3 with fail
    go_quiet (fail);generalize hWq:World.drewN w1 _=w2;have hbq:Below w1.heap.size w1 w2:=hWq▸below_drewN (qb _ _) _;have H2:=hid (H1.later hbq);have HB2:=hid (show Below B w w2 from HB1.trans (hbq.mono H1.hb));clear hbq hWq c0 c1 c3 cf clt hcb;obtain ⟨c0,c1,c3,cf,clt,hcb⟩:=H2.cells;go_wp2_with (first
     |(go_at_call 60;refine (HPr.out _).mono ?_;rintro e w3 ⟨rfl,hb⟩;have H3:=hid (H2.later hb);have HB3:=hid (show Below B w w3 from HB2.trans (hb.mono H2.hb));obtain ⟨c0,c1,c3,cf,clt,hcb⟩:=H3.cells;clear hb)
     |(go_at_call 83;refine (put_at H3.out 7 (e2+1) (by have:=HN.out;omega) (by have:=HN.out;omega) (by first|rfl|omega)).mono ?_;rintro e w4 ⟨rfl,hcs,hb⟩;have HC4:=hid hcs;have HB4:=hid (show Below B w w4 from HB3.trans hb);clear hcs hb))
    all_goals
     refine bodyPost_ret (v:=.tuple #[.int .i64 0,.int .i64 0]) (by simp [results,Tryz.results86,go_sem]) rfl ?_;rw [<-HEq.out];exact ⟨rfl,by have:=HC4.out;rwa [HS2.out] at this,HB4.out⟩
   have y2:((S.extract n e2).toList==[101,108,115,101])=false:=by rw [<-seg_bytes,text_beq];simp [k2]
   by_cases k3:seg S n e2=[101,110,100]
   ·have y3:((S.extract n e2).toList==[101,110,100])=true:=by rw [<-seg_bytes,text_beq];simp [k3]
    rw [if_pos (by rw [k3];decide)] at hR0;have HEq:=hid hR0;clear hR0 k0 k1 k2 k3;go_enter Tryz.func86,Tryz.ntmps86
    go_upto_region 2 with (go_at_call 102;refine (HRun.out _ c0).mono ?_;rintro e w1 ⟨rfl,hb⟩;have H1:=hid (H.later hb);have HB1:=hid (show Below B w w1 from hb.mono H.hb);clear hb)
    clear c0 c1 c3 cf clt hcb;obtain ⟨c0,c1,c3,cf,clt,hcb⟩:=H1.cells;go_upto_region 3 with fail
    go_quiet (fail);generalize hWq:World.drewN w1 _=w2;have hbq:Below w1.heap.size w1 w2:=hWq▸below_drewN (qb _ _) _;have H2:=hid (H1.later hbq);have HB2:=hid (show Below B w w2 from HB1.trans (hbq.mono H1.hb));clear hbq hWq c0 c1 c3 cf clt hcb;obtain ⟨c0,c1,c3,cf,clt,hcb⟩:=H2.cells;go_wp2_with (first
     |(go_at_call 60;refine (HPr.out _).mono ?_;rintro e w3 ⟨rfl,hb⟩;have H3:=hid (H2.later hb);have HB3:=hid (show Below B w w3 from HB2.trans (hb.mono H2.hb));obtain ⟨c0,c1,c3,cf,clt,hcb⟩:=H3.cells;clear hb)
     |(go_at_call 83;refine (put_at H3.out 7 (e2+1) (by have:=HN.out;omega) (by have:=HN.out;omega) (by first|rfl|omega)).mono ?_;rintro e w4 ⟨rfl,hcs,hb⟩;have HC4:=hid hcs;have HB4:=hid (show Below B w w4 from HB3.trans hb);clear hcs hb))
    all_goals
     refine bodyPost_ret (v:=.tuple #[.int .i64 0,.int .i64 0]) (by simp [results,Tryz.results86,go_sem]) rfl ?_;rw [<-HEq.out];exact ⟨rfl,by have:=HC4.out;rwa [HS2.out] at this,HB4.out⟩
   have y3:((S.extract n e2).toList==[101,110,100])=false:=by rw [<-seg_bytes,text_beq];simp [k3]
   by_cases k4:seg S n e2=[119,104,105,108,101]
   ·have y4:((S.extract n e2).toList==[119,104,105,108,101])=true:=by rw [<-seg_bytes,text_beq];simp [k4]
    rw [if_pos (by rw [k4];decide)] at hR0;have HEq:=hid hR0;clear hR0 k0 k1 k2 k3 k4;go_enter Tryz.func86,Tryz.ntmps86
    go_upto_region 2 with (go_at_call 102;refine (HRun.out _ c0).mono ?_;rintro e w1 ⟨rfl,hb⟩;have H1:=hid (H.later hb);have HB1:=hid (show Below B w w1 from hb.mono H.hb);clear hb)
    clear c0 c1 c3 cf clt hcb;obtain ⟨c0,c1,c3,cf,clt,hcb⟩:=H1.cells;go_upto_region 3 with fail
    go_quiet (fail);generalize hWq:World.drewN w1 _=w2;have hbq:Below w1.heap.size w1 w2:=hWq▸below_drewN (qb _ _) _;have H2:=hid (H1.later hbq);have HB2:=hid (show Below B w w2 from HB1.trans (hbq.mono H1.hb));clear hbq hWq c0 c1 c3 cf clt hcb;obtain ⟨c0,c1,c3,cf,clt,hcb⟩:=H2.cells;go_wp2_with (first
     |(go_at_call 60;refine (HPr.out _).mono ?_;rintro e w3 ⟨rfl,hb⟩;have H3:=hid (H2.later hb);have HB3:=hid (show Below B w w3 from HB2.trans (hb.mono H2.hb));obtain ⟨c0,c1,c3,cf,clt,hcb⟩:=H3.cells;clear hb)
     |(go_at_call 83;refine (put_at H3.out 7 (e2+1) (by have:=HN.out;omega) (by have:=HN.out;omega) (by first|rfl|omega)).mono ?_;rintro e w4 ⟨rfl,hcs,hb⟩;have HC4:=hid hcs;have HB4:=hid (show Below B w w4 from HB3.trans hb);clear hcs hb))
    all_goals
     refine bodyPost_ret (v:=.tuple #[.int .i64 0,.int .i64 0]) (by simp [results,Tryz.results86,go_sem]) rfl ?_;rw [<-HEq.out];exact ⟨rfl,by have:=HC4.out;rwa [HS2.out] at this,HB4.out⟩
   have y4:((S.extract n e2).toList==[119,104,105,108,101])=false:=by rw [<-seg_bytes,text_beq];simp [k4]
   by_cases k5:seg S n e2=[112,105,99,107]
   ·have y5:((S.extract n e2).toList==[112,105,99,107])=true:=by rw [<-seg_bytes,text_beq];simp [k5]
    rw [if_pos (by rw [k5];decide)] at hR0;have HEq:=hid hR0;clear hR0 k0 k1 k2 k3 k4 k5;go_enter Tryz.func86,Tryz.ntmps86
    go_upto_region 2 with (go_at_call 102;refine (HRun.out _ c0).mono ?_;rintro e w1 ⟨rfl,hb⟩;have H1:=hid (H.later hb);have HB1:=hid (show Below B w w1 from hb.mono H.hb);clear hb)
    clear c0 c1 c3 cf clt hcb;obtain ⟨c0,c1,c3,cf,clt,hcb⟩:=H1.cells;go_upto_region 3 with fail
    go_quiet (fail);generalize hWq:World.drewN w1 _=w2;have hbq:Below w1.heap.size w1 w2:=hWq▸below_drewN (qb _ _) _;have H2:=hid (H1.later hbq);have HB2:=hid (show Below B w w2 from HB1.trans (hbq.mono H1.hb));clear hbq hWq c0 c1 c3 cf clt hcb;obtain ⟨c0,c1,c3,cf,clt,hcb⟩:=H2.cells;go_wp2_with (first
     |(go_at_call 60;refine (HPr.out _).mono ?_;rintro e w3 ⟨rfl,hb⟩;have H3:=hid (H2.later hb);have HB3:=hid (show Below B w w3 from HB2.trans (hb.mono H2.hb));obtain ⟨c0,c1,c3,cf,clt,hcb⟩:=H3.cells;clear hb)
     |(go_at_call 83;refine (put_at H3.out 7 (e2+1) (by have:=HN.out;omega) (by have:=HN.out;omega) (by first|rfl|omega)).mono ?_;rintro e w4 ⟨rfl,hcs,hb⟩;have HC4:=hid hcs;have HB4:=hid (show Below B w w4 from HB3.trans hb);clear hcs hb))
    all_goals
     refine bodyPost_ret (v:=.tuple #[.int .i64 0,.int .i64 0]) (by simp [results,Tryz.results86,go_sem]) rfl ?_;rw [<-HEq.out];exact ⟨rfl,by have:=HC4.out;rwa [HS2.out] at this,HB4.out⟩
   have y5:((S.extract n e2).toList==[112,105,99,107])=false:=by rw [<-seg_bytes,text_beq];simp [k5]
   by_cases k6:seg S n e2=[111,114]
   ·have y6:((S.extract n e2).toList==[111,114])=true:=by rw [<-seg_bytes,text_beq];simp [k6]
    rw [if_pos (by rw [k6];decide)] at hR0;have HEq:=hid hR0;clear hR0 k0 k1 k2 k3 k4 k5 k6;go_enter Tryz.func86,Tryz.ntmps86
    go_upto_region 2 with (go_at_call 102;refine (HRun.out _ c0).mono ?_;rintro e w1 ⟨rfl,hb⟩;have H1:=hid (H.later hb);have HB1:=hid (show Below B w w1 from hb.mono H.hb);clear hb)
    clear c0 c1 c3 cf clt hcb;obtain ⟨c0,c1,c3,cf,clt,hcb⟩:=H1.cells;go_upto_region 3 with fail
    go_quiet (fail);generalize hWq:World.drewN w1 _=w2;have hbq:Below w1.heap.size w1 w2:=hWq▸below_drewN (qb _ _) _;have H2:=hid (H1.later hbq);have HB2:=hid (show Below B w w2 from HB1.trans (hbq.mono H1.hb));clear hbq hWq c0 c1 c3 cf clt hcb;obtain ⟨c0,c1,c3,cf,clt,hcb⟩:=H2.cells;go_wp2_with (first
     |(go_at_call 60;refine (HPr.out _).mono ?_;rintro e w3 ⟨rfl,hb⟩;have H3:=hid (H2.later hb);have HB3:=hid (show Below B w w3 from HB2.trans (hb.mono H2.hb));obtain ⟨c0,c1,c3,cf,clt,hcb⟩:=H3.cells;clear hb)
     |(go_at_call 83;refine (put_at H3.out 7 (e2+1) (by have:=HN.out;omega) (by have:=HN.out;omega) (by first|rfl|omega)).mono ?_;rintro e w4 ⟨rfl,hcs,hb⟩;have HC4:=hid hcs;have HB4:=hid (show Below B w w4 from HB3.trans hb);clear hcs hb))
    all_goals
     refine bodyPost_ret (v:=.tuple #[.int .i64 0,.int .i64 0]) (by simp [results,Tryz.results86,go_sem]) rfl ?_;rw [<-HEq.out];exact ⟨rfl,by have:=HC4.out;rwa [HS2.out] at this,HB4.out⟩
   have y6:((S.extract n e2).toList==[111,114])=false:=by rw [<-seg_bytes,text_beq];simp [k6]
   rw [if_neg (by unfold keywords;simp only [List.mem_cons,List.not_mem_nil,or_false,not_or];exact ⟨k0,k1,k2,k3,k4,k5,k6⟩)] at hR0;have HEq:=hid hR0;clear hR0 k0 k1 k2 k3 k4 k5 k6;go_enter Tryz.func86,Tryz.ntmps86
   go_upto_region 2 with (go_at_call 102;refine (HRun.out _ c0).mono ?_;rintro e w1 ⟨rfl,hb⟩;have H1:=hid (H.later hb);have HB1:=hid (show Below B w w1 from hb.mono H.hb);clear hb)
   clear c0 c1 c3 cf clt hcb;obtain ⟨c0,c1,c3,cf,clt,hcb⟩:=H1.cells;go_upto_region 3 with fail
   go_quiet (fail);generalize hWq:World.drewN w1 _=w2;have hbq:Below w1.heap.size w1 w2:=hWq▸below_drewN (qb _ _) _;have H2:=hid (H1.later hbq);have HB2:=hid (show Below B w w2 from HB1.trans (hbq.mono H1.hb));clear hbq hWq c0 c1 c3 cf clt hcb;obtain ⟨c0,c1,c3,cf,clt,hcb⟩:=H2.cells;go_wp2_with (go_at_call 60;refine (HPr.out _).mono ?_;rintro e w3 ⟨rfl,hb⟩;have H3:=hid (H2.later hb);have HB3:=hid (show Below B w w3 from HB2.trans (hb.mono H2.hb));obtain ⟨c0,c1,c3,cf,clt,hcb⟩:=H3.cells;clear hb)
   refine bodyPost_ret (v:=.tuple #[.int .i64 (n:Int),.int .i64 31]) (by simp [results,Tryz.results86,go_sem]) rfl ?_;rw [<-HEq.out];exact ⟨rfl,HB3.out⟩
 ·have hno:¬(bl S)[e2]? =some 46:=fun e=>hdot (by
   have hq:=(qn.1 e).1;rw [bl_len] at hq;rw [bl_get S e2 hq] at e;exact ⟨hq,Option.some.inj e⟩)
  rw [if_neg hno] at hR0;have HDot:=hid hdot;clear hno hdot;by_cases h32:32<m
  ·rw [if_pos h32] at hR0
   have HEq:=hid hR0;have d32:(32:Int)<(m:Int):=Int.ofNat_lt.2 h32;clear hR0;by_cases hq:e2<S.size
   ·have hd1:(e2:Int)<(S.size:Int):=Int.ofNat_lt.2 hq
    have hd2:(S[e2]==46)=false:=by have:=HDot.out;simp;exact fun e=>this ⟨hq,e⟩
    have hd3:((S[e2].toNat:Int)==46)=false:=by
     have:=HDot.out;simp only [beq_eq_false_iff_ne,ne_eq];exact fun e=>this ⟨hq,UInt8.toNat_inj.1 (show S[e2].toNat=(46:UInt8).toNat from u8_46 e)⟩
    go_enter Tryz.func86,Tryz.ntmps86
    go_upto_region 2 with (go_at_call 102;refine (HRun.out _ c0).mono ?_;rintro e w1 ⟨rfl,hb⟩;have H1:=hid (H.later hb);have HB1:=hid (show Below B w w1 from hb.mono H.hb);clear hb)
    clear c0 c1 c3 cf clt hcb;obtain ⟨c0,c1,c3,cf,clt,hcb⟩:=H1.cells;go_upto_region 3 with fail
    go_quiet (fail);generalize hWq:World.drewN w1 _=w2;have hbq:Below w1.heap.size w1 w2:=hWq▸below_drewN (qb _ _) _;have H2:=hid (H1.later hbq);have HB2:=hid (show Below B w w2 from HB1.trans (hbq.mono H1.hb));clear hbq hWq c0 c1 c3 cf clt hcb;obtain ⟨c0,c1,c3,cf,clt,hcb⟩:=H2.cells;go_wp2_with fail
    refine bodyPost_ret (v:=.tuple #[.int .i64 (n:Int),.int .i64 31]) (by simp [results,Tryz.results86,go_sem]) rfl ?_;rw [<-HEq.out];exact ⟨rfl,HB2.out⟩
   ·have hd1:¬(e2:Int)<(S.size:Int):=fun h=>hq (Int.ofNat_lt.1 h)
    go_enter Tryz.func86,Tryz.ntmps86
    go_upto_region 2 with (go_at_call 102;refine (HRun.out _ c0).mono ?_;rintro e w1 ⟨rfl,hb⟩;have H1:=hid (H.later hb);have HB1:=hid (show Below B w w1 from hb.mono H.hb);clear hb)
    clear c0 c1 c3 cf clt hcb;obtain ⟨c0,c1,c3,cf,clt,hcb⟩:=H1.cells;go_upto_region 3 with fail
    go_quiet (fail);generalize hWq:World.drewN w1 _=w2;have hbq:Below w1.heap.size w1 w2:=hWq▸below_drewN (qb _ _) _;have H2:=hid (H1.later hbq);have HB2:=hid (show Below B w w2 from HB1.trans (hbq.mono H1.hb));clear hbq hWq c0 c1 c3 cf clt hcb;obtain ⟨c0,c1,c3,cf,clt,hcb⟩:=H2.cells;go_wp2_with fail
    refine bodyPost_ret (v:=.tuple #[.int .i64 (n:Int),.int .i64 31]) (by simp [results,Tryz.results86,go_sem]) rfl ?_;rw [<-HEq.out];exact ⟨rfl,HB2.out⟩
  ·rw [if_neg h32] at hR0
   have d32:¬(32:Int)<(m:Int):=fun h=>h32 (Int.ofNat_lt.1 h);cases hsm:small S[n] with
   |true=>
    rw [if_pos hsm] at hR0;have HEq:=hid hR0;have HSm1:=hid (fun W=>small_is hsm W);clear hR0 hsm;by_cases hq:e2<S.size
    ·have hd1:(e2:Int)<(S.size:Int):=Int.ofNat_lt.2 hq
     have hd2:(S[e2]==46)=false:=by have:=HDot.out;simp;exact fun e=>this ⟨hq,e⟩
     have hd3:((S[e2].toNat:Int)==46)=false:=by
      have:=HDot.out;simp only [beq_eq_false_iff_ne,ne_eq];exact fun e=>this ⟨hq,UInt8.toNat_inj.1 (show S[e2].toNat=(46:UInt8).toNat from u8_46 e)⟩
     go_enter Tryz.func86,Tryz.ntmps86
     go_upto_region 2 with (go_at_call 102;refine (HRun.out _ c0).mono ?_;rintro e w1 ⟨rfl,hb⟩;have H1:=hid (H.later hb);have HB1:=hid (show Below B w w1 from hb.mono H.hb);clear hb)
     clear c0 c1 c3 cf clt hcb;obtain ⟨c0,c1,c3,cf,clt,hcb⟩:=H1.cells;go_upto_region 3 with fail
     go_quiet (fail);generalize hWq:World.drewN w1 _=w2;have hbq:Below w1.heap.size w1 w2:=hWq▸below_drewN (qb _ _) _;have H2:=hid (H1.later hbq);have HB2:=hid (show Below B w w2 from HB1.trans (hbq.mono H1.hb));clear hbq hWq c0 c1 c3 cf clt hcb;obtain ⟨c0,c1,c3,cf,clt,hcb⟩:=H2.cells;go_wp2_with (first
      |(go_at_call 81;refine (HSm1.out _).mono ?_;rintro e w3 ⟨rfl,hb⟩;have H3:=hid (H2.later hb);have HB3:=hid (show Below B w w3 from HB2.trans (hb.mono H2.hb));clear hb)
      |(go_at_call 83;refine (put_at H3.out 2 (e2) (by have:=HN.out;omega) (by have:=HN.out;omega) (by first|rfl|omega)).mono ?_;rintro e w4 ⟨rfl,hcs,hb⟩;have HC4:=hid hcs;have HB4:=hid (show Below B w w4 from HB3.trans hb);clear hcs hb))
     all_goals
      refine bodyPost_ret (v:=.tuple #[.int .i64 0,.int .i64 0]) (by simp [results,Tryz.results86,go_sem]) rfl ?_;rw [<-HEq.out];exact ⟨rfl,HC4.out,HB4.out⟩
    ·have hd1:¬(e2:Int)<(S.size:Int):=fun h=>hq (Int.ofNat_lt.1 h)
     go_enter Tryz.func86,Tryz.ntmps86
     go_upto_region 2 with (go_at_call 102;refine (HRun.out _ c0).mono ?_;rintro e w1 ⟨rfl,hb⟩;have H1:=hid (H.later hb);have HB1:=hid (show Below B w w1 from hb.mono H.hb);clear hb)
     clear c0 c1 c3 cf clt hcb;obtain ⟨c0,c1,c3,cf,clt,hcb⟩:=H1.cells;go_upto_region 3 with fail
     go_quiet (fail);generalize hWq:World.drewN w1 _=w2;have hbq:Below w1.heap.size w1 w2:=hWq▸below_drewN (qb _ _) _;have H2:=hid (H1.later hbq);have HB2:=hid (show Below B w w2 from HB1.trans (hbq.mono H1.hb));clear hbq hWq c0 c1 c3 cf clt hcb;obtain ⟨c0,c1,c3,cf,clt,hcb⟩:=H2.cells;go_wp2_with (first
      |(go_at_call 81;refine (HSm1.out _).mono ?_;rintro e w3 ⟨rfl,hb⟩;have H3:=hid (H2.later hb);have HB3:=hid (show Below B w w3 from HB2.trans (hb.mono H2.hb));clear hb)
      |(go_at_call 83;refine (put_at H3.out 2 (e2) (by have:=HN.out;omega) (by have:=HN.out;omega) (by first|rfl|omega)).mono ?_;rintro e w4 ⟨rfl,hcs,hb⟩;have HC4:=hid hcs;have HB4:=hid (show Below B w w4 from HB3.trans hb);clear hcs hb))
     all_goals
      refine bodyPost_ret (v:=.tuple #[.int .i64 0,.int .i64 0]) (by simp [results,Tryz.results86,go_sem]) rfl ?_;rw [<-HEq.out];exact ⟨rfl,HC4.out,HB4.out⟩
   |false=>
    rw [if_neg (by rw [hsm];simp)] at hR0;have HEq:=hid hR0;have HSm1:=hid (fun W=>small_is hsm W);clear hR0 hsm;by_cases hq:e2<S.size
    ·have hd1:(e2:Int)<(S.size:Int):=Int.ofNat_lt.2 hq
     have hd2:(S[e2]==46)=false:=by have:=HDot.out;simp;exact fun e=>this ⟨hq,e⟩
     have hd3:((S[e2].toNat:Int)==46)=false:=by
      have:=HDot.out;simp only [beq_eq_false_iff_ne,ne_eq];exact fun e=>this ⟨hq,UInt8.toNat_inj.1 (show S[e2].toNat=(46:UInt8).toNat from u8_46 e)⟩
     go_enter Tryz.func86,Tryz.ntmps86
     go_upto_region 2 with (go_at_call 102;refine (HRun.out _ c0).mono ?_;rintro e w1 ⟨rfl,hb⟩;have H1:=hid (H.later hb);have HB1:=hid (show Below B w w1 from hb.mono H.hb);clear hb)
     clear c0 c1 c3 cf clt hcb;obtain ⟨c0,c1,c3,cf,clt,hcb⟩:=H1.cells;go_upto_region 3 with fail
     go_quiet (fail);generalize hWq:World.drewN w1 _=w2;have hbq:Below w1.heap.size w1 w2:=hWq▸below_drewN (qb _ _) _;have H2:=hid (H1.later hbq);have HB2:=hid (show Below B w w2 from HB1.trans (hbq.mono H1.hb));clear hbq hWq c0 c1 c3 cf clt hcb;obtain ⟨c0,c1,c3,cf,clt,hcb⟩:=H2.cells;go_wp2_with (first
      |(go_at_call 81;refine (HSm1.out _).mono ?_;rintro e w3 ⟨rfl,hb⟩;have H3:=hid (H2.later hb);have HB3:=hid (show Below B w w3 from HB2.trans (hb.mono H2.hb));clear hb)
      |(go_at_call 83;refine (put_at H3.out 3 (e2) (by have:=HN.out;omega) (by have:=HN.out;omega) (by first|rfl|omega)).mono ?_;rintro e w4 ⟨rfl,hcs,hb⟩;have HC4:=hid hcs;have HB4:=hid (show Below B w w4 from HB3.trans hb);clear hcs hb))
     all_goals
      refine bodyPost_ret (v:=.tuple #[.int .i64 0,.int .i64 0]) (by simp [results,Tryz.results86,go_sem]) rfl ?_;rw [<-HEq.out];exact ⟨rfl,HC4.out,HB4.out⟩
    ·have hd1:¬(e2:Int)<(S.size:Int):=fun h=>hq (Int.ofNat_lt.1 h)
     go_enter Tryz.func86,Tryz.ntmps86
     go_upto_region 2 with (go_at_call 102;refine (HRun.out _ c0).mono ?_;rintro e w1 ⟨rfl,hb⟩;have H1:=hid (H.later hb);have HB1:=hid (show Below B w w1 from hb.mono H.hb);clear hb)
     clear c0 c1 c3 cf clt hcb;obtain ⟨c0,c1,c3,cf,clt,hcb⟩:=H1.cells;go_upto_region 3 with fail
     go_quiet (fail);generalize hWq:World.drewN w1 _=w2;have hbq:Below w1.heap.size w1 w2:=hWq▸below_drewN (qb _ _) _;have H2:=hid (H1.later hbq);have HB2:=hid (show Below B w w2 from HB1.trans (hbq.mono H1.hb));clear hbq hWq c0 c1 c3 cf clt hcb;obtain ⟨c0,c1,c3,cf,clt,hcb⟩:=H2.cells;go_wp2_with (first
      |(go_at_call 81;refine (HSm1.out _).mono ?_;rintro e w3 ⟨rfl,hb⟩;have H3:=hid (H2.later hb);have HB3:=hid (show Below B w w3 from HB2.trans (hb.mono H2.hb));clear hb)
      |(go_at_call 83;refine (put_at H3.out 3 (e2) (by have:=HN.out;omega) (by have:=HN.out;omega) (by first|rfl|omega)).mono ?_;rintro e w4 ⟨rfl,hcs,hb⟩;have HC4:=hid hcs;have HB4:=hid (show Below B w w4 from HB3.trans hb);clear hcs hb))
     all_goals
      refine bodyPost_ret (v:=.tuple #[.int .i64 0,.int .i64 0]) (by simp [results,Tryz.results86,go_sem]) rfl ?_;rw [<-HEq.out];exact ⟨rfl,HC4.out,HB4.out⟩
end Pz
end Go.Proofs.YtimcmghhbdfjfaaGreatDoor
