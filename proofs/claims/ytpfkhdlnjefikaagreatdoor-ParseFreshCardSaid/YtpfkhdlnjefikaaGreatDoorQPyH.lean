/- Package word: number. -/
import Derived.Test.YtpfkhdlnjefikaaGreatDoorQPyF
import Derived.Deep.CutBlock
set_option linter.unusedVariables false
set_option linter.unusedSimpArgs false
namespace Go.Proofs.YtpfkhdlnjefikaaGreatDoor
open Go.RowKit Go.WideMaps Go.Maps
namespace Pz
structure NumAt (S:ByteArray) (n g e2:Nat):Prop where
 n0:n<S.size
 hg:g=n+signLen ((bl S).drop n)
 he:e2=n+numLen ((bl S).drop n)
 sp:g+span digit ((bl S).drop g)=e2
 ng:n<=g
 ge:g<=e2
 le:e2<=S.size
 lt:n<e2
 form:(g=n/\g<e2)\/(g=n+1/\S[n]=95)
theorem num_at {S:ByteArray} {n:Nat} (hn:n<S.size) (hb:S[n]=95\/digit S[n]=true):∃ g e2,NumAt S n g e2/\((S[n]=95/\g=n+1)\/(S[n]≠95/\g=n)):=by
 have hd:=bl_drop S n hn
 have hsl:signLen ((bl S).drop n)=if S[n]=95 then 1 else 0:=by rw [hd];simp [signLen]
 have hnl:numLen ((bl S).drop n)=signLen ((bl S).drop n)+span digit ((bl S).drop (n+signLen ((bl S).drop n))):=by
  unfold numLen
  rw [List.drop_drop]
 have hle:=fun k=>span_le digit ((bl S).drop k)
 simp only [List.length_drop,bl_len] at hle
 by_cases h95:S[n]=95
 ·rw [if_pos h95] at hsl
  rw [hsl] at hnl
  have h1:=hle (n+1)
  exact ⟨n+1,n+1+span digit ((bl S).drop (n+1)),⟨hn,by rw [hsl],by rw [hnl];omega,rfl,by omega,by omega,by omega,by omega,.inr ⟨rfl,h95⟩⟩,.inl ⟨h95,rfl⟩⟩
 ·rw [if_neg h95] at hsl
  rw [hsl] at hnl
  have h1:=hle n
  have h2:=span_at (p:=digit) hn
  rw [if_pos (hb.resolve_left h95)] at h2
  simp only [Nat.add_zero] at hnl
  exact ⟨n,n+span digit ((bl S).drop n),⟨hn,by rw [hsl];rfl,by rw [hnl];omega,rfl,by omega,by omega,by omega,by omega,.inl ⟨rfl,by omega⟩⟩,.inr ⟨h95,rfl⟩⟩
theorem NumAt.bad1 {S:ByteArray} {n:Nat} (ws:List W) (hb:badTail ((bl S).drop n)=true):number ((bl S).drop n) n ws=.bad 30 n:=by
 unfold number
 rw [if_pos hb]
theorem NumAt.bad2 {S:ByteArray} {n:Nat} (ws:List W) (hb:badText ((bl S).drop n)=true):number ((bl S).drop n) n ws=.bad 30 n:=by
 unfold number
 split
 ·rfl
 ·first|rfl|rw [if_pos hb]
section
variable {S:ByteArray} {n g e2:Nat} (h:NumAt S n g e2)
include h
theorem NumAt.tail:badTail ((bl S).drop n)=(match (bl S)[e2]? with|some c=>alnum c||c==95|none=>false):=by
 unfold badTail
 rw [drop_at,<-h.he]
 cases (bl S)[e2]? <;>rfl
theorem NumAt.tail_in (hq:e2<S.size):badTail ((bl S).drop n)=(alnum S[e2]||S[e2]==95):=by
 rw [h.tail,bl_get S e2 hq]
theorem NumAt.tail_out (hq:¬e2<S.size):badTail ((bl S).drop n)=false:=by
 rw [h.tail,List.getElem?_eq_none (by rw [bl_len];omega)]
theorem NumAt.text:((bl S).drop n).take (numLen ((bl S).drop n))=seg S n e2:=by rw [take_seg,<-h.he]
theorem NumAt.bad:badText ((bl S).drop n)=(seg S n e2 !=[95]&&((decide (1<e2-g)&&(bl S)[g]? ==some 48)||seg S n e2==[95,48]||!inRange (numberOf (seg S n e2)))):=by
 unfold badText
 rw [h.text,show numLen ((bl S).drop n)-signLen ((bl S).drop n)=e2-g from by have:=h.he;have:=h.hg;omega,List.drop_drop,<-h.hg,List.head?_drop]
theorem NumAt.digits:∀ c∈seg S g e2,digit c=true:=by
 have:=span_all digit ((bl S).drop g)
 unfold seg
 rwa [show e2-g=span digit ((bl S).drop g) from by have:=h.sp;omega]
theorem NumAt.shape:(seg S n e2=seg S g e2/\g<e2)\/seg S n e2=95::seg S g e2:=by
 rcases h.form with ⟨hg,hlt⟩|⟨hg,h95⟩
 ·exact .inl ⟨by rw [hg],hlt⟩
 ·refine .inr ?_
  unfold seg
  rw [bl_drop S n h.n0,h95,hg,show e2-n=(e2-(n+1))+1 from by have:=h.lt;omega]
  rfl
theorem NumAt.ne (ht:seg S n e2≠[95]):seg S g e2≠[]:=by
 rcases h.shape with ⟨-,hlt⟩|hs
 ·intro he
  have:=seg_len (S:=S) h.ge h.le
  rw [he] at this
  simp at this
  omega
 ·intro he
  exact ht (by rw [hs,he])
theorem NumAt.parse (ht:seg S n e2≠[95]):Lib.parseIntB 64 (Lib.replace (seg S n e2) [95] [45] 1)=if inRange (numberOf (seg S n e2))=true then .ok (numberOf (seg S n e2)) else .range:=
 parse_number (h.shape.elim (fun h=>.inl h.1) .inr) (h.ne ht) h.digits
theorem NumAt.small (hS:S.size<=1048576):(Lib.replace (seg S n e2) [95] [45] 1).length<=4194304:=by
 have hl:=seg_len (S:=S) h.ge h.le
 rcases h.shape with ⟨hs,-⟩|hs
 ·rw [hs,replace_plain _ h.digits,hl]
  have:=h.le
  omega
 ·rw [hs,replace_sign,List.length_cons,hl]
  have:=h.le
  omega
theorem NumAt.more {ws l:List W} {v:W} {k:List UInt8} (h1:badTail ((bl S).drop n)=false) (h2:badText ((bl S).drop n)=false) (hw:ws=l++[{ v with text:=k }]) (hv:v.kind=1):
 number ((bl S).drop n) n ws=.ok (e2,l++[{ v with text:=k++32::seg S n e2 }]):=by
 unfold number
 rw [if_neg (by rw [h1];simp),if_neg (by rw [h2];simp),hw,List.getLast?_concat,h.text,<-h.he]
 dsimp only
 rw [if_pos hv,List.dropLast_concat]
theorem NumAt.puts {ws:List W} (h1:badTail ((bl S).drop n)=false) (h2:badText ((bl S).drop n)=false) (hw:∀ v,ws.getLast? =some v->v.kind≠1):
 number ((bl S).drop n) n ws=.ok (e2,ws++[⟨1,seg S n e2,n⟩]):=by
 unfold number
 rw [if_neg (by rw [h1];simp),if_neg (by rw [h2];simp),h.text,<-h.he]
 cases hl:ws.getLast? with
 |none=>
  rw [List.getLast?_eq_none_iff.1 hl]
  rfl
 |some v=>
  dsimp only
  rw [if_neg (hw v hl)]
end
theorem grown_two {a b c d:World} {r:Option Nat} {g:Nat} (h:Below a.heap.size a b) (h1:b.grownBy c r) (hat:r=some g\/g=b.heap.size) (h2:c.grownBy d (some g)):a.grownBy d r:=
 ⟨h2.os.trans (h1.os.trans h.os),h2.tape.trans (h1.tape.trans h.tape),h2.output.trans (h1.output.trans h.output),Nat.le_trans h.size (Nat.le_trans h1.size h2.size),fun i hi hne=>by
  have hi1:=Nat.lt_of_lt_of_le hi h.size
  refine ((h2.block i (Nat.lt_of_lt_of_le hi1 h1.size) (fun e=>?_)).trans (h1.block i hi1 hne)).trans (h.block i hi)
  rcases hat with hat|hat
  ·exact hne (by rw [hat];exact e)
  ·have:=Option.some.inj e
   omega⟩
theorem cells_more (k:List UInt8) (S:ByteArray) (n e2:Nat):(Lib.strCells (bytes k)++[.int .u8 32])++Lib.strCells (S.extract n e2)=Lib.strCells (bytes (k++32::seg S n e2)):=by
 rw [<-seg_bytes]
 simp [Lib.strCells,bytes]
theorem CS.numbered {B:Nat} {w:World} {cb mb:Nat} {S:ByteArray} {n e2:Nat} {ws:List W} {wv rv:Value} {last:Int} {l:List W} {v:W} {k:List UInt8} (h:CS B w cb mb S n ws) (hm:CM B w cb mb S n wv last rv (l++[v]) k) (hv:v.kind=1) (hk:k.length<=2*n) (hf:fixW (l++[v]) k=ws) {w6:World} {v6:Value} (hg:w.grownBy w6 rv.ownBlock)
 (hown:w6.ownsRow B 5 1 v6 (k.length+1+(S.extract n e2).size) ((Lib.strCells (bytes k)++[.int .u8 32])++Lib.strCells (S.extract n e2))) (h1:n<e2) (h2:e2<=S.size) {u:Value} (hu:u=.int .i64 (e2:Int)):
 CS B ((w6.setCell ⟨cb,5,none⟩ v6).setCell ⟨cb,1,none⟩ u) cb mb S e2 (l++[{ v with text:=k++32::seg S n e2 }])/\Below B w ((w6.setCell ⟨cb,5,none⟩ v6).setCell ⟨cb,1,none⟩ u):=by
 have hl:(seg S n e2).length=e2-n:=seg_len (Nat.le_of_lt h1) h2
 rw [cells_more,show k.length+1+(S.extract n e2).size=(k++32::seg S n e2).length from by rw [seg_size (Nat.le_of_lt h1) h2,List.length_append,List.length_cons,hl];omega] at hown
 have hb:Below B w ((w6.setCell ⟨cb,5,none⟩ v6).setCell ⟨cb,1,none⟩ u):=(hm.below hg (fun g hg=>(ownsRow_lt hm.row g hg).1) h.hb).setCell (p:=⟨cb,1,none⟩) hm.cb0 _
 refine ⟨⟨⟨_,_,_,_,_,(hm.rowed hg hown).place e2 hu,?_,fun _ _ _=>by simp,?_⟩,?_,h.sz,h2,Nat.le_trans h.hb hb.size,h.vars.kept (hb.block _ h.gb.1) (hb.block _ h.gb.2),h.gb⟩,hb⟩
 ·rw [fixW_snoc,if_pos hv]
 ·rw [List.length_append,List.length_cons,hl]
  omega
 ·have:=h.len
  rw [<-hf,fixW_len,List.length_append] at this
  rw [List.length_append]
  simp at this ⊢
  omega
theorem cutnum_max {k m n:Nat} {S:ByteArray} (hk:k<=2*n) (hm:m<=S.size) (hn:n<=S.size) (hS:S.size<=1048576):(k+1<=maxLen/\(k+1)*1<=140737488355328)/\k+1+m<=maxLen/\k+1+m<=140737488355328:=by
 unfold maxLen
 omega
set_option maxRecDepth 100000 in
set_option maxHeartbeats 4000000 in
theorem cutnum_calls {B:Nat} {w:World} {cb mb:Nat} {S:ByteArray} {n:Nat} {ws:List W} (h:CS B w cb mb S n ws) (hn:n<S.size) (hb:S[n]=95\/digit S[n]=true):
 Calls Tryz.prog 80 #[.pointer (some ⟨cb,0,none⟩)] w (PC B cb mb S w (number ((bl S).drop n) n ws)):=by
 obtain ⟨i8,hi8,hz0,hz1,hz2⟩:=info_parts info_u8
 obtain ⟨g,e2,hN,hg⟩:=num_at hn hb
 obtain ⟨R0,hR0⟩:∃ R0,number ((bl S).drop n) n ws=R0:=⟨_,rfl⟩
 rw [hR0]
 have HR:=hid hR0
 have HN:=hid hN
 have H:=hid h
 have hsz:=h.sz
 have HSz:=hid hsz
 have hn0:(0:Int)<=(n:Int):=Int.natCast_nonneg _
 have hn1:(n:Int)<(S.size:Int):=Int.ofNat_lt.2 hn
 have he0:(0:Int)<=(e2:Int):=Int.natCast_nonneg _
 have he1:(n:Int)<=(e2:Int):=Int.ofNat_le.2 (Nat.le_of_lt hN.lt)
 have he2:(e2:Int)<=(S.size:Int):=Int.ofNat_le.2 hN.le
 have hg0:(0:Int)<=(g:Int):=Int.natCast_nonneg _
 obtain ⟨c0,c1,c3,cf,clt,hcb⟩:=h.cells
 clear h hb hR0 hN
 go_enter Tryz.func80,Tryz.ntmps80
 go_upto_region 2 with fail
 go_upto_if 21 with fail
 go_cut [4] from 11 (fun v wq=>v=.int .i64 (g:Int)/\Below w.heap.size w wq)
 case first=>
  rcases hg with ⟨h95,hg⟩|⟨h95,hg⟩
  ·have s95:((S[n].toNat:Int)==95)=true:=by rw [h95];rfl
   have hw1:wrap64 ((n:Int)+1)=(n:Int)+1:=wrap_succ (Nat.le_trans (Nat.le_of_lt hn) hsz)
   subst hg
   go_wp2_with fail
   go_meet
   case rel=>exact ⟨by go_num,Below.refl _ _⟩
  ·have s95:((S[n].toNat:Int)==95)=false:=u8_ne h95
   subst hg
   go_wp2_with fail
   go_meet
   case rel=>exact ⟨rfl,Below.refl _ _⟩
 case rest=>
 obtain ⟨rfl,hb1⟩:=hcut
 have HC1:=hid (H.out.later hb1)
 have HB1:=hid (show Below B w _ from hb1.mono H.out.hb)
 clear hb1 c0 c1 c3 cf clt hcb hg
 generalize wc=w1 at HC1 HB1 ⊢
 go_upto_block 0 with fail
 go_cut [4] from 11 (fun v wq=>v=.int .i64 (e2:Int)/\Below w1.heap.size w1 wq)
 case first=>
  go_wp2_with fail
  go_loopw [4] (fun i wr=>∃ k:Nat,k<=S.size/\i=.int .i64 k/\Below w1.heap.size w1 wr/\Hid (k+span digit ((bl S).drop k)=e2)) (fun i _=>S.size-(intOf i).toNat)
  case atStart=>exact ⟨g,Nat.le_trans HN.out.ge HN.out.le,rfl,Below.refl _ _,hid HN.out.sp⟩
  case round=>
   obtain ⟨wk,hwk⟩:∃ wk,wk=wr:=⟨_,rfl⟩
   subst hwk
   obtain ⟨k,hk,rfl,hbk,hsp⟩:=hrel
   have c0:wk.cell? ⟨cb,0,none⟩=some (.string S):=(cell_of_heap (hbk.block _ HC1.out.cells.2.2.2.2.1)).trans HC1.out.cells.1
   have HBk:=hid hbk
   have k0:(0:Int)<=(k:Int):=Int.natCast_nonneg _
   clear hbk
   by_cases hlt:k<S.size
   ·have k1:(k:Int)<(S.size:Int):=Int.ofNat_lt.2 hlt
    cases ha:digit S[k] with
    |true=>
     have hw:wrap64 ((k:Int)+1)=(k:Int)+1:=wrap_succ (Nat.le_trans hk hsz)
     have HSp:=hid (show k+1+span digit ((bl S).drop (k+1))=e2 from by
      have:=hsp.out
      rw [span_at hlt,ha,if_pos rfl] at this
      omega)
     go_wp2_with (first
      |(go_at_call 79;refine (digit_is ha _).mono ?_;rintro e w2 ⟨rfl,hb2⟩;have HB2:=hid (HBk.out.trans (hb2.mono HBk.out.size));have c0:w2.cell? ⟨cb,0,none⟩=some (.string S):=(cell_of_heap (hb2.block _ (World.block_lt_of_cell? _ _ c0))).trans c0;clear hb2))
     go_roundw
     case rel=>exact ⟨k+1,hlt,by go_num,HB2.out,HSp⟩
     case measure=>exact sp_meas (by first|exact Int.lt_succ _|(rw [hw];exact Int.lt_succ _)) k0 k1
    |false=>
     have hke:k=e2:=by
      have:=hsp.out
      rw [span_at hlt,ha,if_neg (by simp)] at this
      omega
     subst hke
     go_wp2_with (first
      |(go_at_call 79;refine (digit_is ha _).mono ?_;rintro e w2 ⟨rfl,hb2⟩;have HB2:=hid (HBk.out.trans (hb2.mono HBk.out.size));have c0:w2.cell? ⟨cb,0,none⟩=some (.string S):=(cell_of_heap (hb2.block _ (World.block_lt_of_cell? _ _ c0))).trans c0;clear hb2))
     go_meet
     case rel=>exact ⟨rfl,HB2.out⟩
   ·have hke:k=e2:=by
     have:=hsp.out
     rw [span_end (by omega)] at this
     omega
    subst hke
    have k1:¬(k:Int)<(S.size:Int):=fun h=>hlt (Int.ofNat_lt.1 h)
    go_wp2_with fail
    go_meet
    case rel=>exact ⟨rfl,HBk.out⟩
 case rest=>
 obtain ⟨rfl,hb2⟩:=hcut
 have HC2:=hid (HC1.out.later hb2)
 have HB2:=hid (show Below B w _ from HB1.out.trans (hb2.mono HC1.out.hb))
 clear hb2
 generalize wc=w2 at HC2 HB2 ⊢
 obtain ⟨c0,c1,c3,cf,clt,hcb⟩:=HC2.out.cells
 obtain ⟨bt,hbt⟩:∃ bt,badTail ((bl S).drop n)=bt:=⟨_,rfl⟩
 have HBt:=hid hbt
 clear hbt
 go_upto_region 7 with fail
 go_cut [6] from 11 (fun v wq=>v=.bool bt/\Below w2.heap.size w2 wq)
 case first=>
  by_cases hq:e2<S.size
  ·have hbt:=HBt.out
   rw [HN.out.tail_in hq] at hbt
   have d1:(e2:Int)<(S.size:Int):=Int.ofNat_lt.2 hq
   cases ha:alnum S[e2] with
   |true=>
    rw [ha,Bool.true_or] at hbt
    subst hbt
    go_wp2_with (first
     |(go_at_call 107;refine (alnum_is ha _).mono ?_;rintro e w3 ⟨rfl,hb⟩;have HB3:=hid hb;have c0:w3.cell? ⟨cb,0,none⟩=some (.string S):=(HC2.out.later hb).cells.1;clear hb))
    go_meet
    case rel=>exact ⟨rfl,HB3.out⟩
   |false=>
    rw [ha,Bool.false_or] at hbt
    by_cases h95:S[e2]=95
    ·have t95:((S[e2].toNat:Int)==95)=true:=by rw [h95];rfl
     rw [show (S[e2]==95)=true from by rw [h95];rfl] at hbt
     subst hbt
     clear h95
     go_wp2_with (first
      |(go_at_call 107;refine (alnum_is ha _).mono ?_;rintro e w3 ⟨rfl,hb⟩;have HB3:=hid hb;have c0:w3.cell? ⟨cb,0,none⟩=some (.string S):=(HC2.out.later hb).cells.1;clear hb))
     go_meet
     case rel=>exact ⟨rfl,HB3.out⟩
    ·have t95:((S[e2].toNat:Int)==95)=false:=u8_ne h95
     rw [show (S[e2]==95)=false from by simp [h95]] at hbt
     subst hbt
     clear h95
     go_wp2_with (first
      |(go_at_call 107;refine (alnum_is ha _).mono ?_;rintro e w3 ⟨rfl,hb⟩;have HB3:=hid hb;have c0:w3.cell? ⟨cb,0,none⟩=some (.string S):=(HC2.out.later hb).cells.1;clear hb))
     go_meet
     case rel=>exact ⟨rfl,HB3.out⟩
  ·have d1:¬(e2:Int)<(S.size:Int):=fun h=>hq (Int.ofNat_lt.1 h)
   have hbt:=HBt.out
   rw [HN.out.tail_out hq] at hbt
   subst hbt
   go_wp2_with fail
   go_meet
   case rel=>exact ⟨rfl,Below.refl _ _⟩
 case rest=>
 obtain ⟨rfl,hb3⟩:=hcut
 have HC3:=hid (HC2.out.later hb3)
 have HB3:=hid (show Below B w _ from HB2.out.trans (hb3.mono HC2.out.hb))
 clear hb3 c0 c1 c3 cf clt hcb
 generalize wc=w3 at HC3 HB3 ⊢
 obtain ⟨c0,c1,c3,cf,clt,hcb⟩:=HC3.out.cells
 go_upto_region 8 with fail
 go_quiet (fail)
 generalize hWq:World.drewN w3 _=w4
 have hbq:Below w3.heap.size w3 w4:=hWq▸below_drewN (Below.refl _ _) _
 have HC4:=hid (HC3.out.later hbq)
 have HB4:=hid (show Below B w w4 from HB3.out.trans (hbq.mono HC3.out.hb))
 clear hbq hWq c0 c1 c3 cf clt hcb
 obtain ⟨c0,c1,c3,cf,clt,hcb⟩:=HC4.out.cells
 go_upto_block 2 with fail
 go_cut [] from 11 (fun wq=>Below w4.heap.size w4 wq/\Hid (badTail ((bl S).drop n)=false/\badText ((bl S).drop n)=false))
 case first=>
  cases bt with
  |true=>
   have HEq:=hid (HR.out.symm.trans (NumAt.bad1 ws HBt.out))
   go_wp2_with fail
   refine bodyPost_ret (v:=.tuple #[.int .i64 (n:Int),.int .i64 30]) (by simp [results,Tryz.results80,go_sem]) rfl ?_
   rw [HEq.out]
   exact ⟨rfl,HB4.out⟩
  |false=>
  have hbad:=HN.out.bad
  by_cases h95:seg S n e2=[95]
  ·have y0:((S.extract n e2).toList==[95])=true:=by rw [<-seg_bytes,text_beq];simp [h95]
   have HOk:=hid (show badText ((bl S).drop n)=false from by rw [hbad,h95];rfl)
   clear hbad h95
   go_wp2_with fail
   go_meet
   case rel=>exact ⟨Below.refl _ _,hid ⟨HBt.out,HOk.out⟩⟩
  have y0:((S.extract n e2).toList==[95])=false:=by rw [<-seg_bytes,text_beq];simp [h95]
  rw [show (seg S n e2 !=[95])=true from by simp [h95],Bool.true_and] at hbad
  obtain ⟨dn,hdn⟩:∃ dn,dn=e2-g:=⟨_,rfl⟩
  have hsub:wrap64 ((e2:Int)-(g:Int))=(e2:Int)-(g:Int):=by
   have h1:=HN.out.ge
   have h2:=HN.out.le
   unfold wrap64
   omega
  rw [<-hdn] at hbad
  by_cases hz:1<dn/\∃ hq:g<S.size,S[g]=48
  ·obtain ⟨hz1,hz2,hz3⟩:=hz
   have d1:(1:Int)<(e2:Int)-(g:Int):=by omega
   have g1:(g:Int)<(S.size:Int):=Int.ofNat_lt.2 hz2
   have t48:((S[g].toNat:Int)==48)=true:=by rw [hz3];rfl
   rw [decide_eq_true hz1,bl_get S g hz2,hz3] at hbad
   have HEq:=hid (HR.out.symm.trans (NumAt.bad2 ws (by rw [hbad];rfl)))
   clear hbad hdn h95 hz1 hz3
   go_wp2_with fail
   refine bodyPost_ret (v:=.tuple #[.int .i64 (n:Int),.int .i64 30]) (by simp [results,Tryz.results80,go_sem]) rfl ?_
   rw [HEq.out]
   exact ⟨rfl,HB4.out⟩
  have hz0f:(decide (1<dn)&&(bl S)[g]? ==some 48)=false:=by
   rw [Bool.and_eq_false_iff]
   by_cases h1:1<dn
   ·refine .inr ?_
    have hq:g<S.size:=by have:=HN.out.le;omega
    rw [bl_get S g hq]
    simp
    exact fun e=>hz ⟨h1,hq,e⟩
   ·exact .inl (decide_eq_false h1)
  rw [hz0f,Bool.false_or] at hbad
  by_cases hd:1<dn
  ·have d1:(1:Int)<(e2:Int)-(g:Int):=by omega
   have hq:g<S.size:=by have:=HN.out.le;omega
   have g1:(g:Int)<(S.size:Int):=Int.ofNat_lt.2 hq
   have t48:((S[g].toNat:Int)==48)=false:=u8_ne (fun e=>hz ⟨hd,hq,e⟩)
   clear hz hz0f hdn hd
   by_cases h0:seg S n e2=[95,48]
   ·have y1:((S.extract n e2).toList==[95,48])=true:=by rw [<-seg_bytes,text_beq];simp [h0]
    have HEq:=hid (HR.out.symm.trans (NumAt.bad2 ws (by rw [hbad,h0];rfl)))
    clear hbad h95 h0
    go_wp2_with fail
    refine bodyPost_ret (v:=.tuple #[.int .i64 (n:Int),.int .i64 30]) (by simp [results,Tryz.results80,go_sem]) rfl ?_
    rw [HEq.out]
    exact ⟨rfl,HB4.out⟩
   have y1:((S.extract n e2).toList==[95,48])=false:=by rw [<-seg_bytes,text_beq];simp [h0]
   rw [show (seg S n e2==[95,48])=false from by simp [h0],Bool.false_or] at hbad
   have hpa:=HN.out.parse h95
   have HRe:=hid (fun W hv=>replace_calls (seg S n e2) W (by rw [seg_len (Nat.le_of_lt HN.out.lt) HN.out.le];exact Nat.le_trans (Nat.sub_le _ _) (Nat.le_trans HN.out.le (Nat.le_trans HSz.out (by decide)))) hv)
   rw [seg_bytes] at HRe
   cases hr:inRange (numberOf (seg S n e2)) with
   |true=>
    rw [hr,if_pos rfl] at hpa
    have HPa:=hid (fun W=>parse_ok _ _ W (HN.out.small HSz.out) hpa)
    have HOk:=hid (show badText ((bl S).drop n)=false from by rw [hbad,hr];rfl)
    clear hbad h95 h0 hpa hr
    go_wp2_with (first
     |(go_at_call 109;refine (HRe.out _ HC4.out.vars).mono ?_;rintro e w5 ⟨rfl,hb⟩;have HB5:=hid hb;have HC5:=hid (HC4.out.later hb);clear hb)
     |(go_at_call 108;refine (HPa.out _).mono ?_;rintro e w6 ⟨rfl,hb⟩;have HB6:=hid (HB5.out.trans (hb.mono HB5.out.size));clear hb))
    go_meet
    case rel=>exact ⟨HB6.out,hid ⟨HBt.out,HOk.out⟩⟩
   |false=>
    rw [hr,if_neg (by simp)] at hpa
    have HPa:=hid (fun W hv=>parse_range _ W (HN.out.small HSz.out) hpa hv)
    have HEq:=hid (HR.out.symm.trans (NumAt.bad2 ws (by rw [hbad,hr];rfl)))
    clear hbad h95 h0 hpa hr
    go_wp2_with (first
     |(go_at_call 109;refine (HRe.out _ HC4.out.vars).mono ?_;rintro e w5 ⟨rfl,hb⟩;have HB5:=hid hb;have HC5:=hid (HC4.out.later hb);clear hb)
     |(go_at_call 108;refine (HPa.out _ HC5.out.vars).mono ?_;rintro e w6 ⟨⟨pv,pt,pp,rfl⟩,hb⟩;have HB6:=hid (HB5.out.trans (hb.mono HB5.out.size));have HC6:=hid (HC5.out.later hb);clear hb c0 c1 c3 cf clt hcb;obtain ⟨c0,c1,c3,cf,clt,hcb⟩:=HC6.out.cells))
    refine bodyPost_ret (v:=.tuple #[.int .i64 (n:Int),.int .i64 30]) (by simp [results,Tryz.results80,go_sem]) rfl ?_
    rw [HEq.out]
    exact ⟨rfl,HB4.out.trans (HB6.out.mono HC4.out.hb)⟩
  ·have d1:¬(1:Int)<(e2:Int)-(g:Int):=by omega
   clear hz hz0f hdn hd
   by_cases h0:seg S n e2=[95,48]
   ·have y1:((S.extract n e2).toList==[95,48])=true:=by rw [<-seg_bytes,text_beq];simp [h0]
    have HEq:=hid (HR.out.symm.trans (NumAt.bad2 ws (by rw [hbad,h0];rfl)))
    clear hbad h95 h0
    go_wp2_with fail
    refine bodyPost_ret (v:=.tuple #[.int .i64 (n:Int),.int .i64 30]) (by simp [results,Tryz.results80,go_sem]) rfl ?_
    rw [HEq.out]
    exact ⟨rfl,HB4.out⟩
   have y1:((S.extract n e2).toList==[95,48])=false:=by rw [<-seg_bytes,text_beq];simp [h0]
   rw [show (seg S n e2==[95,48])=false from by simp [h0],Bool.false_or] at hbad
   have hpa:=HN.out.parse h95
   have HRe:=hid (fun W hv=>replace_calls (seg S n e2) W (by rw [seg_len (Nat.le_of_lt HN.out.lt) HN.out.le];exact Nat.le_trans (Nat.sub_le _ _) (Nat.le_trans HN.out.le (Nat.le_trans HSz.out (by decide)))) hv)
   rw [seg_bytes] at HRe
   cases hr:inRange (numberOf (seg S n e2)) with
   |true=>
    rw [hr,if_pos rfl] at hpa
    have HPa:=hid (fun W=>parse_ok _ _ W (HN.out.small HSz.out) hpa)
    have HOk:=hid (show badText ((bl S).drop n)=false from by rw [hbad,hr];rfl)
    clear hbad h95 h0 hpa hr
    go_wp2_with (first
     |(go_at_call 109;refine (HRe.out _ HC4.out.vars).mono ?_;rintro e w5 ⟨rfl,hb⟩;have HB5:=hid hb;have HC5:=hid (HC4.out.later hb);clear hb)
     |(go_at_call 108;refine (HPa.out _).mono ?_;rintro e w6 ⟨rfl,hb⟩;have HB6:=hid (HB5.out.trans (hb.mono HB5.out.size));clear hb))
    go_meet
    case rel=>exact ⟨HB6.out,hid ⟨HBt.out,HOk.out⟩⟩
   |false=>
    rw [hr,if_neg (by simp)] at hpa
    have HPa:=hid (fun W hv=>parse_range _ W (HN.out.small HSz.out) hpa hv)
    have HEq:=hid (HR.out.symm.trans (NumAt.bad2 ws (by rw [hbad,hr];rfl)))
    clear hbad h95 h0 hpa hr
    go_wp2_with (first
     |(go_at_call 109;refine (HRe.out _ HC4.out.vars).mono ?_;rintro e w5 ⟨rfl,hb⟩;have HB5:=hid hb;have HC5:=hid (HC4.out.later hb);clear hb)
     |(go_at_call 108;refine (HPa.out _ HC5.out.vars).mono ?_;rintro e w6 ⟨⟨pv,pt,pp,rfl⟩,hb⟩;have HB6:=hid (HB5.out.trans (hb.mono HB5.out.size));have HC6:=hid (HC5.out.later hb);clear hb c0 c1 c3 cf clt hcb;obtain ⟨c0,c1,c3,cf,clt,hcb⟩:=HC6.out.cells))
    refine bodyPost_ret (v:=.tuple #[.int .i64 (n:Int),.int .i64 30]) (by simp [results,Tryz.results80,go_sem]) rfl ?_
    rw [HEq.out]
    exact ⟨rfl,HB4.out.trans (HB6.out.mono HC4.out.hb)⟩
 case rest=>
 obtain ⟨hb5,hok⟩:=hcut
 have HC5:=hid (HC4.out.later hb5)
 have HB5:=hid (show Below B w _ from HB4.out.trans (hb5.mono HC4.out.hb))
 clear hb5 c0 c1 c3 cf clt hcb
 generalize wc=w5 at HC5 HB5 ⊢
 obtain ⟨wv,last,rv,vs,k,hm,hf,hkn,hkl⟩:=HC5.out.ex
 obtain ⟨A1,cap1,rfl⟩:=row_forms hm.words
 obtain ⟨A2,cap2,rfl⟩:=row_forms hm.row
 obtain ⟨c0,c1,c2,c3,c4,c5,cf,clt⟩:=hm.cells
 have HM:=hid hm
 have HF:=hid hf
 rcases List.eq_nil_or_concat vs with rfl|⟨l,v,rfl⟩
 ·have HEq:=hid (HR.out.symm.trans (HN.out.puts hok.out.1 hok.out.2 (by rw [<-hf,fixW_nil];intro v hv;cases hv)))
  clear hm hf hkn hkl
  go_wp2_with (go_at_call 78;refine (put_at HC5.out 1 e2 HN.out.lt HN.out.le rfl).mono ?_;rintro e w9 ⟨rfl,hcs,hb⟩;have HC9:=hid hcs;have HB9:=hid (show Below B w w9 from HB5.out.trans hb);clear hcs hb)
  all_goals
   refine bodyPost_ret (v:=.tuple #[.int .i64 0,.int .i64 0]) (by simp [results,Tryz.results80,go_sem]) rfl ?_
   rw [HEq.out]
   exact ⟨rfl,HC9.out,HB9.out⟩
 ·rw [List.concat_eq_append] at*
  have hlen:(l++[v]).length=l.length+1:=by simp
  have hll:l.length<=1048576:=by
   have h1:=HC5.out.len
   have h2:=HC5.out.le
   rw [<-hf,fixW_len,hlen] at h1
   omega
  rw [hlen] at c2
  obtain ⟨g1,rfl⟩:∃ g,A1=some ⟨g,0,none⟩:=by
   rcases hm.words.2 with ⟨e,h0⟩|⟨g,cap',cur,e,_⟩
   ·rw [hlen] at h0;omega
   ·cases e;exact ⟨g,rfl⟩
  have k0:w5.cell? ⟨g1,l.length*3,none⟩=some (.int .i64 v.kind):=by
   have:=hm.words.cellAt (l.length*3+0) (by rw [hlen];omega)
   rw [Nat.add_zero] at this
   rw [this]
   have:=wflat_at (l++[v]) l.length v (by simp) 0 _ rfl
   rw [Nat.add_zero] at this
   exact this
  have hw:wrap64 (l.length:Int)=l.length:=wrap_nat (by omega)
  have i0:(0:Int)<=(l.length:Int):=Int.natCast_nonneg _
  have i1:(l.length:Int)<(l.length:Int)+1:=Int.lt_succ _
  have hgl:g1<w5.heap.size:=(ownsRow_lt hm.words g1 rfl).2
  by_cases h1:v.kind=1
  ·have d1:(v.kind==1)=true:=by simp [h1]
   rw [fixW_snoc,if_pos h1] at hf
   have HEq:=hid (HR.out.symm.trans (HN.out.more hok.out.1 hok.out.2 hf.symm h1))
   have HV:=hid h1
   have HK:=hid hkl
   have HMx:=hid (cutnum_max (m:=(S.extract n e2).size) hkl (by rw [seg_size (Nat.le_of_lt HN.out.lt) HN.out.le];exact Nat.le_trans (Nat.sub_le _ _) HN.out.le) (Nat.le_of_lt HN.out.n0) HSz.out)
   have HB0:=hid HC5.out.hb
   clear hm hf hkn hkl h1
   go_upto_region 21 with (first
    |(at_builtin;refine wpList_append_lies _ (by rfl) _ _ 99 (by rfl) B 5 i8 (.int .u8 0) 1 1 Tryz.underlying99 hi8 hz0 hz1 hz2 (by rfl) (by decide) (.slice A2 k.length cap2) k.length (Lib.strCells (bytes k)) (by rfl) (ownsRow_kept HM.out.row (fun b hb=>(show Below w5.heap.size w5 _ from by go_grown).block b (ownsRow_lt HM.out.row b hb).2)) ⟨w5.heap.size,0,none⟩ 1 1 [.int .u8 32] (by rfl) (by rfl) (by exact World.news_of_block (heap_new _ _)) (by intro u hu;simp at hu;subst hu;rfl) (by decide) HMx.out.1.1 HMx.out.1.2 (by have:=HB0.out;simp;omega) _ rfl ?_;intro g6 cap6 w6 hown hgrow hat hlt;have HO6:=hid hown;have HG6:=hid hgrow;have HA6:=hid hat;have HL6:=hid (Nat.le_trans HB0.out (Nat.le_trans (show w5.heap.size<=_ from (show Below w5.heap.size w5 _ from by go_grown).size) hgrow.size));clear hown hgrow hat hlt)
    |(at_builtin;refine Lib.wpList_append_own_string _ (by rfl) _ _ 99 9 (by rfl) B 5 i8 Tryz.underlying99 Tryz.underlying9 hi8 hz0 hz1 hz2 (.slice (some ⟨g6,0,none⟩) (k.length+1) cap6) (k.length+1) (Lib.strCells (bytes k)++[.int .u8 32]) (by rfl) HO6.out (S.extract n e2) (by rfl) HMx.out.2.1 HMx.out.2.2 HL6.out ?_;intro v7 w7 hown hgrow hnil;obtain ⟨A7,cap7,rfl⟩:=row_forms hown;have HO7:=hid hown;have HG7:=hid (show w5.grownBy w7 (Value.slice A2 k.length cap2).ownBlock from grown_two (by go_grown) HG6.out HA6.out hgrow);obtain ⟨hbx,-,-⟩:=HM.out.grown HG7.out (fun g hg=>⟨_,row_typed HM.out.row hg,by decide⟩);have x1:=hbx.cell 1 (.int .i64 (n:Int)) rfl;have x5:=hbx.cell 5 (.slice A2 k.length cap2) rfl;have xf:=hbx.fz;have xl:=hbx.lt;clear hown hgrow hnil hbx))
   all_goals
    generalize hW7:World.setCell w7 _ _=w8
    have c1:w8.cell? ⟨cb,1,none⟩=some (.int .i64 (n:Int)):=by
     rw [<-hW7]
     simp [go_sem,x1]
    have cf:∀ o,w8.frozen? ⟨cb,o,none⟩=false:=fun o=>by rw [<-hW7];simp [go_sem,xf]
    have clt:cb<w8.heap.size:=by rw [<-hW7];simpa [World.setCell] using xl
    have HW7:=hid hW7
    clear hW7 x1 x5 xf xl
    go_wp2_with fail
    refine bodyPost_ret (v:=.tuple #[.int .i64 0,.int .i64 0]) (by simp [results,Tryz.results80,go_sem]) rfl ?_
    rw [HEq.out,<-HW7.out]
    have hfin:=HC5.out.numbered HM.out HV.out HK.out HF.out HG7.out HO7.out HN.out.lt HN.out.le rfl
    rw [show (S.extract n e2).size=min e2 S.size-n from ByteArray.size_extract] at hfin
    exact ⟨rfl,hfin.1,HB5.out.trans hfin.2⟩
  ·have d1:(v.kind==1)=false:=by simp [h1]
   rw [fixW_snoc,if_neg h1] at hf
   have HEq:=hid (HR.out.symm.trans (HN.out.puts hok.out.1 hok.out.2 (by rw [<-hf,List.getLast?_concat];intro u hu;cases hu;exact h1)))
   clear hm hf hkn hkl h1
   go_wp2_with (go_at_call 78;refine (put_at HC5.out 1 e2 HN.out.lt HN.out.le rfl).mono ?_;rintro e w9 ⟨rfl,hcs,hb⟩;have HC9:=hid hcs;have HB9:=hid (show Below B w w9 from HB5.out.trans hb);clear hcs hb)
   all_goals
    refine bodyPost_ret (v:=.tuple #[.int .i64 0,.int .i64 0]) (by simp [results,Tryz.results80,go_sem]) rfl ?_
    rw [HEq.out]
    exact ⟨rfl,HC9.out,HB9.out⟩
end Pz
end Go.Proofs.YtpfkhdlnjefikaaGreatDoor
