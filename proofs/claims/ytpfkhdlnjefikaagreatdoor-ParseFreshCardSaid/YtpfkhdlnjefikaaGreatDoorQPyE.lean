/- Package word: put. -/
import Derived.Test.YtpfkhdlnjefikaaGreatDoorQPyAA
import Derived.Deep.RegionLaw
set_option linter.unusedVariables false
set_option linter.unusedSimpArgs false
namespace Go.Proofs.YtpfkhdlnjefikaaGreatDoor
open Go.RowKit Go.WideMaps Go.Maps
namespace Pz
theorem step_append_string {P:Program} (w:World) {ops:Array Oper} {o:Oper} {a:Act} {K:Act->World->Prop} {Q:Exit->Act->World->Prop} {E:Prop} (hgd:o.guard=none) (sl x:Operand) (t u:TypeId)
 (ho:o.op=.call { callee:=.builtin .append,args:=#[sl,x],argTypes:=#[t,u] })
 (base:Nat) (e:TypeId) (i:TypeInfo) (ht:P.underlying t=some (.slice e)) (hu:P.underlying u=some .string) (hi:P.info? e=some i) (hz:i.zero=some (.int .u8 0))
 (hsize:i.size=1) (hby:i.bytes=1)
 (v:Value) (n:Nat) (xs:List Value) (hs:a.eval sl=v) (hown:w.ownsRow base e 1 v n xs) (s:ByteArray) (hx:a.eval x=.string s)
 (h63:n+s.size<=maxLen) (hbytes:n+s.size<=140737488355328) (hbase:base<=w.heap.size)
 (h:∀ v' w',w'.ownsRow base e 1 v' (n+s.size) (xs++Lib.strCells s)->w.grownBy w' v.ownBlock->K (a.put o.dst v') w'):
 if Region.wanted o (yielded ops a.tmps)=true then Oper.wp P o a w K Q else E:=by
 have hw:Region.wanted o (yielded ops a.tmps)=true:=by simp [Region.wanted,hgd]
 rw [if_pos hw]
 obtain ⟨v',w',hr,h2,h3,-⟩:=Lib.run_append_own_string (P:=P) (w:=w) base t u o.type e i ht hu hi hz hsize hby v n xs hown s h63 hbytes hbase
 unfold Oper.wp execOp
 simp only [ho,resolve,invoke,builtin,Sem.run_bind,Sem.run_pure,Result.andThen_ok,List.map_toArray,List.map_cons,List.map_nil,hs,hx,hr]
 exact h v' w' h2 h3
theorem info_u8:(Tryz.prog.info? 5).map (fun i=>(i.zero,i.size,i.bytes))=some (some (.int .u8 0),1,1):=by kernel_rfl
theorem info_word:(Tryz.prog.info? 71).map (fun i=>(i.zero,i.size,i.bytes))=some (some (.agg #[.int .i64 0,.string ⟨#[]⟩,.int .i64 0]),3,32):=by kernel_rfl
theorem row_empty {w:World} {base:Nat} {e:TypeId} {n cap:Nat} {A:Option Addr} {xs:List Value} (h:w.ownsRow base e 1 (.slice A n cap) n xs):w.ownsRow base e 1 (.slice A 0 cap) 0 []:=by
 rcases h.2 with ⟨h1,h0⟩|⟨g,cap',cur,h1,h2,h3,h4,h5,h6,h7⟩
 ·cases h1;exact ⟨rfl,.inl ⟨rfl,rfl⟩⟩
 ·cases h1;exact ⟨rfl,.inr ⟨g,cap,cur,rfl,h2,h3,Nat.zero_le _,h5,h6,by simp⟩⟩
section
variable {B:Nat} {w:World} {cb mb:Nat} {S:ByteArray} {n:Nat} {wv rv:Value} {last:Int} {vs:List W} {k:List UInt8} (h:CM B w cb mb S n wv last rv vs k)
include h
theorem CM.rowed {w':World} {v':Value} {k':List UInt8} (hg:w.grownBy w' rv.ownBlock) (hown:w'.ownsRow B 5 1 v' k'.length (Lib.strCells (bytes k'))):CM B (w'.setCell ⟨cb,5,none⟩ v') cb mb S n wv last v' vs k':=by
 obtain ⟨h1,h2,h3⟩:=h.grown hg (fun g hg'=>⟨_,row_typed h.row hg',by decide⟩)
 have hw:w'.ownsRow B 71 3 wv vs.length (wflat vs):=ownsRow_kept h.words (fun g hg'=>hg.block g (ownsRow_lt h.words g hg').2 (fun e=>h.w_r hg' e.symm rfl))
 have hm:mb≠cb:=h.m_cb
 refine ⟨by simpa using h1.put 5 v' (by simp),h2.set _ _,ownsRow_kept hw (fun g hg'=>Below.heap_setCell _ _ _ _ ((row_typed hw hg').ne h2 (by decide))),ownsRow_kept hown (fun g hg'=>Below.heap_setCell _ _ _ _ ((row_typed hown hg').ne h2 (by decide))),ownsMap_keep h3 (Below.heap_setCell _ _ _ _ hm),h.cb0,h.mb0⟩
theorem CM.worded {w':World} {v':Value} {vs':List W} (hg:w.grownBy w' wv.ownBlock) (hown:w'.ownsRow B 71 3 v' vs'.length (wflat vs')):CM B (w'.setCell ⟨cb,2,none⟩ v') cb mb S n v' last rv vs' k:=by
 obtain ⟨h1,h2,h3⟩:=h.grown hg (fun g hg'=>⟨_,row_typed h.words hg',by decide⟩)
 have hr:w'.ownsRow B 5 1 rv k.length (Lib.strCells (bytes k)):=ownsRow_kept h.row (fun g hg'=>hg.block g (ownsRow_lt h.row g hg').2 (fun e=>h.w_r e.symm hg' rfl))
 have hm:mb≠cb:=h.m_cb
 refine ⟨by simpa using h1.put 2 v' (by simp),h2.set _ _,ownsRow_kept hown (fun g hg'=>Below.heap_setCell _ _ _ _ ((row_typed hown hg').ne h2 (by decide))),ownsRow_kept hr (fun g hg'=>Below.heap_setCell _ _ _ _ ((row_typed hr hg').ne h2 (by decide))),ownsMap_keep h3 (Below.heap_setCell _ _ _ _ hm),h.cb0,h.mb0⟩
theorem CM.below {w':World} {r:Option Nat} {i:Nat} {u:Value} (hg:w.grownBy w' r) (hr:∀ g,r=some g->B<=g) (hB:B<=w.heap.size):Below B w (w'.setCell ⟨cb,i,none⟩ u):=
 ((Below.refl B w).grown hg hB hr).setCell (p:=⟨cb,i,none⟩) h.cb0 u
theorem CM.place (m:Nat) {u:Value} (hu:u=.int .i64 (m:Int)):CM B (w.setCell ⟨cb,1,none⟩ u) cb mb S m wv last rv vs k:=by
 subst hu
 exact h.set 1 _ (by simp) (by decide) h.words h.row
theorem CM.lasts {m:Int} {u:Value} (hu:u=.int .i64 m):CM B (w.setCell ⟨cb,4,none⟩ u) cb mb S n wv m rv vs k:=by
 subst hu
 exact h.set 4 _ (by simp) (by decide) h.words h.row
end
def seg (S:ByteArray) (n e2:Nat):List UInt8:=((bl S).drop n).take (e2-n)
theorem seg_len {S:ByteArray} {n e2:Nat} (h1:n<=e2) (h2:e2<=S.size):(seg S n e2).length=e2-n:=by
 unfold seg
 rw [List.length_take,List.length_drop,bl_len]
 omega
theorem seg_bytes (S:ByteArray) (n e2:Nat):bytes (seg S n e2)=S.extract n e2:=bytes_extract S n e2
theorem seg_size {S:ByteArray} {n e2:Nat} (h1:n<=e2) (h2:e2<=S.size):(S.extract n e2).size=e2-n:=by
 rw [<-seg_bytes,show (bytes (seg S n e2)).size=(seg S n e2).length from by simp [bytes,ByteArray.size],seg_len h1 h2]
theorem grown_before {a b c:World} {r:Option Nat} (h:Below a.heap.size a b) (k:b.grownBy c r):a.grownBy c r:=⟨k.os.trans h.os,k.tape.trans h.tape,k.output.trans h.output,Nat.le_trans h.size k.size,fun i hi hne=>(k.block i (Nat.lt_of_lt_of_le hi h.size) hne).trans (h.block i hi)⟩
theorem word_max {L:Nat} (h:L<=1048576):L+1<=maxLen/\(L+1)*32<=140737488355328:=by
 unfold maxLen
 omega
set_option maxRecDepth 100000 in
set_option maxHeartbeats 6000000 in
theorem put_calls {B:Nat} {w:World} {cb mb:Nat} {S:ByteArray} {n:Nat} {wv rv:Value} {last:Int} {vs:List W} {k:List UInt8} (h:CM B w cb mb S n wv last rv vs k) (hl:vs.length<=1048576) (hk:∀ v,vs.getLast? =some v->v.kind=1->k≠[]) (kind:Int) (e2:Nat) (h1:n<=e2) (h2:e2<=S.size) (hS:S.size<=1048576) (hB:B<=w.heap.size):
 Calls Tryz.prog 78 #[.pointer (some ⟨cb,0,none⟩),.int .i64 kind,.int .i64 (e2:Int)] w fun e w'=>e=.returned (.tuple #[])/\(∃ wv' rv',CM B w' cb mb S e2 wv' e2 rv' (fixW vs k++[W.mk kind (seg S n e2) n]) (seg S n e2))/\Below B w w':=by
 obtain ⟨i8,hi8,hz0,hz1,hz2⟩:=info_parts info_u8
 obtain ⟨iw,hiw,hy0,hy1,hy2⟩:=info_parts info_word
 have HCl:=hid (close_calls h hl hk)
 have HL:=hid (And.intro hl hS)
 have HTo:=hid (And.intro h1 h2)
 have hn0:(0:Int)<=(n:Int):=Int.natCast_nonneg _
 have hn1:(n:Int)<=(e2:Int):=Int.ofNat_le.2 h1
 have hn2:(e2:Int)<=(S.size:Int):=Int.ofNat_le.2 h2
 have hs1:=seg_size h1 h2
 have HB:=hid hB
 go_enter Tryz.func78,Tryz.ntmps78
 go_upto_region 1 with (go_at_call 53;refine HCl.out.mono ?_;rintro e w1 ⟨rfl,hcm,hb⟩;have H1:=hid hcm;have HB1:=hid hb;clear hcm hb)
 obtain ⟨A,cap,rfl⟩:=row_forms H1.out.row
 obtain ⟨c0,c1,c2,c3,c4,c5,cf,clt⟩:=H1.out.cells
 have H1d:=hid (H1.out.later (Below.refl w1.heap.size w1).drew)
 go_cut [] from 6 (fun wq=>∃ (A3:Option Addr) (cap3:Nat),CM B wq cb mb S n wv last (.slice A3 (e2-n) cap3) (fixW vs k) (seg S n e2)/\Below B w1 wq)
 case first=>
  go_region_law (refine step_append_string _ (by rfl) _ _ 99 9 (by rfl) B 5 i8 Tryz.underlying99 Tryz.underlying9 hi8 hz0 hz1 hz2 (.slice A 0 cap) 0 [] (by rfl) (row_empty H1d.out.row) (S.extract n e2) (by rfl) (by rw [hs1];unfold maxLen;omega) (by rw [hs1];omega) (Nat.le_trans HB.out HB1.out.size) ?_;intro v2 w2 hown hgrow;rw [hs1,Nat.zero_add,List.nil_append] at hown;obtain ⟨A3,cap3,rfl⟩:=row_forms hown;replace hgrow:w1.drew.grownBy w2 (Value.slice A k.length cap).ownBlock:=(by cases A<;>exact hgrow);have H2:=hid hown;have HG2:=hid hgrow;obtain ⟨hbx,-,-⟩:=H1d.out.grown hgrow (fun g hg=>⟨_,row_typed H1d.out.row hg,by decide⟩);have x5:=hbx.cell 5 (.slice A k.length cap) rfl;have xf:=hbx.fz;have xl:=hbx.lt;clear hown hgrow hbx)
  all_goals
   generalize hW3:World.setCell w2 _ _=w3
   have hrow:w2.ownsRow B 5 1 (.slice A3 (e2-n) cap3) (seg S n e2).length (Lib.strCells (bytes (seg S n e2))):=by
    rw [seg_bytes,seg_len HTo.out.1 HTo.out.2]
    exact H2.out
   have H3:=hid (show CM B w3 cb mb S n wv last (.slice A3 (e2-n) cap3) (fixW vs k) (seg S n e2) from by rw [<-hW3];exact H1d.out.rowed HG2.out hrow)
   have HB3:=hid (show Below B w1 w3 from by rw [<-hW3];exact ((Below.refl B w1).drew).trans (H1d.out.below HG2.out (fun g hg=>(ownsRow_lt H1d.out.row g hg).1) (Nat.le_trans HB.out HB1.out.size)))
   clear hW3 hrow H2 HG2 x5 xf xl c0 c1 c2 c3 c4 c5 cf clt
   go_wp2_with fail
   go_meet
   case rel=>exact ⟨_,_,H3.out,HB3.out⟩
 case rest=>
 obtain ⟨A3,cap3,hc3,hb3⟩:=hcut
 have H3:=hid hc3
 have HB3:=hid hb3
 clear hc3 hb3 c0 c1 c2 c3 c4 c5 cf clt
 generalize wc=w3 at H3 HB3 ⊢
 obtain ⟨A2,cap2,rfl⟩:=row_forms H3.out.words
 obtain ⟨c0,c1,c2,c3,c4,c5,cf,clt⟩:=H3.out.cells
 have HFl:=hid (fixW_len vs k)
 have HLm:=hid (word_max (show (fixW vs k).length<=1048576 from by rw [fixW_len];exact HL.out.1))
 go_upto_region 3 with fail
 go_region_law (refine step_append_lies _ (by rfl) _ _ 61 (by rfl) B 71 iw _ 3 32 Tryz.underlying61 hiw hy0 hy1 hy2 (by rfl) (by decide) (.slice A2 (fixW vs k).length cap2) (fixW vs k).length (wflat (fixW vs k)) (by rfl) (ownsRow_kept H3.out.words (fun b hb=>(show Below w3.heap.size w3 _ from by go_grown).block b (ownsRow_lt H3.out.words b hb).2)) ⟨w3.heap.size,0,none⟩ 1 1 [.int .i64 kind,.string (S.extract n e2),.int .i64 (n:Int)] (by rfl) (by rfl) (by exact World.news_of_block (heap_new _ _)) (by intro u hu;simp at hu;rcases hu with rfl|rfl|rfl<;>rfl) (by decide) HLm.out.1 HLm.out.2 (by have:=HB.out;have:=HB1.out.size;have:=HB3.out.size;simp;omega) _ rfl ?_;intro g4 cap4 w4 hown hgrow hat hlt;replace hgrow:w3.grownBy w4 (Value.slice A2 (fixW vs k).length cap2).ownBlock:=grown_before (by go_grown) hgrow;have H4:=hid hown;have HG4:=hid hgrow;obtain ⟨hbx,-,-⟩:=H3.out.grown hgrow (fun g hg=>⟨_,row_typed H3.out.words hg,by decide⟩);have x2:=hbx.cell 2 (.slice A2 (fixW vs k).length cap2) rfl;have xf:=hbx.fz;have xl:=hbx.lt;clear hown hgrow hbx hat hlt)
 all_goals
  generalize hW5:World.setCell w4 _ _=w5
  have hrow5:w4.ownsRow B 71 3 (.slice (some ⟨g4,0,none⟩) ((fixW vs k).length+1) cap4) (fixW vs k++[W.mk kind (seg S n e2) n]).length (wflat (fixW vs k++[W.mk kind (seg S n e2) n])):=by
   have:=H4.out
   rw [wflat_snoc,List.length_append,List.length_singleton]
   show w4.ownsRow B 71 3 _ _ (wflat (fixW vs k)++[.int .i64 kind,.string (bytes (seg S n e2)),.int .i64 (n:Int)])
   rw [seg_bytes]
   exact this
  have H5:=hid (show CM B w5 cb mb S n (.slice (some ⟨g4,0,none⟩) ((fixW vs k).length+1) cap4) last (.slice A3 (e2-n) cap3) (fixW vs k++[W.mk kind (seg S n e2) n]) (seg S n e2) from by rw [<-hW5];exact H3.out.worded HG4.out hrow5)
  have HB5:=hid (show Below B w3 w5 from by rw [<-hW5];exact H3.out.below HG4.out (fun g hg=>(ownsRow_lt H3.out.words g hg).1) (by have:=HB.out;have:=HB1.out.size;have:=HB3.out.size;omega))
  clear hW5 hrow5 H4 HG4 x2 xf xl c0 c1 c2 c3 c4 c5 cf clt
  obtain ⟨c0,c1,c2,c3,c4,c5,cf,clt⟩:=H5.out.cells
  go_wp2_with fail
  refine bodyPost_end (results_none rfl _ _ _) rfl ?_
  refine ⟨rfl,⟨_,_,(H5.out.place e2 rfl).lasts rfl⟩,?_⟩
  exact ((((HB1.out.trans HB3.out).trans HB5.out).setCell (p:=⟨cb,1,none⟩) H5.out.cb0 _).setCell (p:=⟨cb,4,none⟩) H5.out.cb0 _)
end Pz
end Go.Proofs.YtpfkhdlnjefikaaGreatDoor
