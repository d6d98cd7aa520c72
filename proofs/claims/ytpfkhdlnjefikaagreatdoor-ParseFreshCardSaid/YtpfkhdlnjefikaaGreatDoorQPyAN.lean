/- Package parse: request. Package parse: Verb, Noun; Line's plain side. Package parse: Line. -/
import Derived.Test.YtpfkhdlnjefikaaGreatDoorQPyAK
set_option linter.unusedVariables false
set_option linter.unusedSimpArgs false
namespace Go.Proofs.YtpfkhdlnjefikaaGreatDoor
open Go.RowKit
namespace Pz
theorem trimR_cons (c:UInt8) (r:List UInt8):trimR (c::r)=if (c==32)=true/\trimR r=[] then [] else c::trimR r:=by
 unfold trimR
 rw [List.reverse_cons,List.dropWhile_append]
 by_cases h:(List.dropWhile (fun x=>x==32) r.reverse)=[]
 ·rw [h]
  by_cases hc:(c==32)=true
  ·simp [hc]
  ·simp [hc]
 ·rw [if_neg (by simpa using h),if_neg (by simpa using fun _=>h)]
  simp
theorem trim_comm (l:List UInt8):trimR (l.dropWhile (·==32))=(trimR l).dropWhile (·==32):=by
 induction l with
 |nil=>rfl
 |cons c r ih=>
  rw [trimR_cons]
  by_cases hc:(c==32)=true
  ·rw [List.dropWhile_cons_of_pos (p:=fun x=>x==32) hc,ih]
   by_cases hr:trimR r=[]
   ·rw [if_pos ⟨hc,hr⟩,hr]
   ·rw [if_neg (fun h=>hr h.2),List.dropWhile_cons_of_pos (p:=fun x=>x==32) hc]
  ·rw [List.dropWhile_cons_of_neg (p:=fun x=>x==32) hc,if_neg (fun h=>hc h.1),List.dropWhile_cons_of_neg (p:=fun x=>x==32) hc,trimR_cons,if_neg (fun h=>hc h.1)]
theorem trim_lib (l:List UInt8):Lib.trimB l 32=trim l:=by
 unfold Lib.trimB Lib.trimLeftB Lib.trimRightB trim
 rw [trim_comm]
 rfl
def lineV (k:Int) (n:ByteArray) (y:TV) (args:Value):Value:=.agg #[.int .i64 k,.string n,.int .i64 y.kind,.string y.text,.int .i64 y.n,.slice y.sa y.sl y.sc,.slice y.aa y.al y.ac,.slice y.ka y.kl y.kc,args]
def ArgsAt (w w':World) (a:Option (List UInt8)) (av:Value):Prop:=
 match a with
 |none=>av=.slice none 0 0
 |some s=>∃ b,av=.slice (some ⟨b,0,none⟩) 1 1/\w'.cell? ⟨b,0,none⟩=some (.string (bytes s))/\w.heap.size<=b
def PL (w:World) (l:L) (v:Value) (w':World):Prop:=
 match l with
 |.none=>v=lineV 0 ⟨#[]⟩ zeroTV (.slice none 0 0)
 |.noun t=>∃ y G,v=lineV 1 ⟨#[]⟩ y (.slice none 0 0)/\Own w' t y G/\From [] w.heap.size w'.heap.size G
 |.named k n t=>∃ y G,v=lineV k (bytes n) y (.slice none 0 0)/\Own w' t y G/\From [] w.heap.size w'.heap.size G
 |.request n a=>∃ av,v=lineV 4 (bytes n) zeroTV av/\ArgsAt w w' a av
def PLine (w:World) (r:R L) (e:Ending) (w':World):Prop:=
 match r with
 |.ok l=>∃ v,e=.returned (.tuple #[v,.int .i64 0,.int .i64 0])/\PL w l v w'/\Below w.heap.size w w'
 |.bad c p=>e=.returned (.tuple #[lineV 0 ⟨#[]⟩ zeroTV (.slice none 0 0),.int .i64 p,.int .i64 c])/\Below w.heap.size w w'
abbrev lineZ:Array Value:=#[.int .i64 0,.string ⟨#[]⟩,.int .i64 0,.string ⟨#[]⟩,.int .i64 0,.slice none 0 0,.slice none 0 0,.slice none 0 0,.slice none 0 0]
theorem trim_is (s:ByteArray) (w:World) (hs:s.size<=4096):Calls Tryz.prog 49 #[.string s,.string ⟨#[32]⟩] w fun e w'=>e=.returned (.string (bytes (trim (bl s))))/\Below w.heap.size w w':=by
 refine (Tryz.strings_Trim_one s 32 (by decide) w (Nat.le_trans hs (by decide))).mono ?_
 rintro e w' ⟨rfl,hw⟩
 refine ⟨?_,?_⟩
 ·have:=trim_lib (bl s)
  unfold bl at this
  rw [this]
  rfl
 ·rcases hw with rfl|rfl
  ·exact Below.refl _ _
  ·exact (Below.refl _ _).drew
theorem info_text:(Tryz.prog.info? 9).map (fun i=>(i.zero,i.size,i.bytes))=some (some (.string ⟨#[]⟩),1,16):=by kernel_rfl
theorem set_nine {B:Nat} {w w0:World} (h:Below B w w0) {b:Nat} (hb:B<=b) (v0 v1 v2 v3 v4 v5 v6 v7 v8:Value):Below B w (((((((((w0.setCell ⟨b,0,none⟩ v0).setCell ⟨b,1,none⟩ v1).setCell ⟨b,2,none⟩ v2).setCell ⟨b,3,none⟩ v3).setCell ⟨b,4,none⟩ v4).setCell ⟨b,5,none⟩ v5).setCell ⟨b,6,none⟩ v6).setCell ⟨b,7,none⟩ v7).setCell ⟨b,8,none⟩ v8):=
 ((((((((h.setCell (p:=⟨b,0,none⟩) hb v0).setCell (p:=⟨b,1,none⟩) hb v1).setCell (p:=⟨b,2,none⟩) hb v2).setCell (p:=⟨b,3,none⟩) hb v3).setCell (p:=⟨b,4,none⟩) hb v4).setCell (p:=⟨b,5,none⟩) hb v5).setCell (p:=⟨b,6,none⟩) hb v6).setCell (p:=⟨b,7,none⟩) hb v7).setCell (p:=⟨b,8,none⟩) hb v8
theorem small_facts {c:UInt8} (h:small c=true):(97:Int)<=(c.toNat:Int)/\(c.toNat:Int)<=122:=by
 unfold small at h
 simp at h
 omega
set_option maxRecDepth 100000 in
set_option maxHeartbeats 800000 in
theorem request_calls {S:ByteArray} (hS:S.size<=4096) {n:Nat} (hn:n<S.size) (w:World):Calls Tryz.prog 24 #[.string S,.int .i64 (n:Int)] w (PLine w (request (bl S) n)):=by
 obtain ⟨R0,hR0⟩:∃ R0,request (bl S) n=R0:=⟨_,rfl⟩
 rw [hR0]
 unfold request at hR0
 dsimp only at hR0
 obtain ⟨m,hm⟩:∃ m,m=span small ((bl S).drop (n+1)):=⟨_,rfl⟩
 rw [<-hm] at hR0
 have hml:n+1+m<=S.size:=by
  have:=span_le small ((bl S).drop (n+1))
  rw [List.length_drop,bl_len] at this
  omega
 have HM:=hid (show n+1+span small ((bl S).drop (n+1))=n+1+m from by rw [hm])
 have HL:=hid hml
 have HSz:=hid hS
 have hn0:(0:Int)<=(n:Int):=Int.natCast_nonneg _
 have hn1:(n:Int)<(S.size:Int):=Int.ofNat_lt.2 hn
 have hw1:wrap64 ((n:Int)+1)=((n+1:Nat):Int):=wrap_succ (by omega)
 have X0:=hid (Boxd.new w lineZ 40)
 have HB0:=hid ((Below.refl w.heap.size w).alloc (Nat.le_refl _) (.cells lineZ 40))
 generalize hw0:w.alloc (.cells lineZ 40)=w0 at X0 HB0
 have HW0:=hid hw0
 clear hw0 hm
 go_enter Tryz.func24,Tryz.ntmps24
 go_upto_region 1 with fail
 go_upto_block 0 with fail
 rw [HW0.out]
 go_cut [7] from 10 (fun v wq=>v=.int .i64 ((n+1+m:Nat):Int)/\wq=w0)
 case first=>
  go_wp2_with fail
  go_loopw [7] (fun i wr=>∃ k:Nat,k<=S.size/\i=.int .i64 k/\wr=w0/\Hid (k+span small ((bl S).drop k)=n+1+m)) (fun i _=>S.size-(intOf i).toNat)
  case atStart=>exact ⟨n+1,hn,by go_num,rfl,HM⟩
  case round=>
   obtain ⟨k,hk,rfl,hwr,hsp⟩:=hrel
   have HWr:=hid hwr
   clear hwr
   have k0:(0:Int)<=(k:Int):=Int.natCast_nonneg _
   by_cases hlt:k<S.size
   ·have k1:(k:Int)<(S.size:Int):=Int.ofNat_lt.2 hlt
    have hw:wrap64 ((k:Int)+1)=((k+1:Nat):Int):=wrap_succ (by omega)
    cases ha:small S[k] with
    |true=>
     obtain ⟨d97,d122⟩:=small_facts ha
     have HSp:=hid (show k+1+span small ((bl S).drop (k+1))=n+1+m from by
      have:=hsp.out
      rw [span_at hlt,ha,if_pos rfl] at this
      omega)
     clear ha
     (try go_wp2_with fail)
     go_roundw
     case rel=>exact ⟨k+1,hlt,by go_num,HWr.out,HSp⟩
     case measure=>exact sp_meas (by first|exact Int.lt_succ _|(rw [hw];exact Int.lt_succ _)) k0 k1
    |false=>
     have hke:k=n+1+m:=by
      have:=hsp.out
      rw [span_at hlt,ha,if_neg (by simp)] at this
      omega
     have HKe:=hid hke
     clear hke
     by_cases d97:(97:Int)<=(S[k].toNat:Int)
     ·have d122:¬(S[k].toNat:Int)<=122:=fun h=>by
       unfold small at ha
       simp at ha
       omega
      clear ha
      go_wp2_with fail
      go_meet
      case rel=>exact ⟨by rw [HKe.out],HWr.out⟩
     ·clear ha
      go_wp2_with fail
      go_meet
      case rel=>exact ⟨by rw [HKe.out],HWr.out⟩
   ·have hke:k=n+1+m:=by
     have:=hsp.out
     rw [span_end (by omega)] at this
     omega
    have HKe:=hid hke
    clear hke
    have k1:¬(k:Int)<(S.size:Int):=fun h=>hlt (Int.ofNat_lt.1 h)
    go_wp2_with fail
    go_meet
    case rel=>exact ⟨by rw [HKe.out],HWr.out⟩
 case rest=>
 obtain ⟨rfl,hwc⟩:=hcut
 subst hwc
 have x0:=X0.out.cell 0 (.int .i64 0) rfl
 have x1:=X0.out.cell 1 (.string ⟨#[]⟩) rfl
 have x2:=X0.out.cell 2 (.int .i64 0) rfl
 have x3:=X0.out.cell 3 (.string ⟨#[]⟩) rfl
 have x4:=X0.out.cell 4 (.int .i64 0) rfl
 have x5:=X0.out.cell 5 (.slice none 0 0) rfl
 have x6:=X0.out.cell 6 (.slice none 0 0) rfl
 have x7:=X0.out.cell 7 (.slice none 0 0) rfl
 have x8:=X0.out.cell 8 (.slice none 0 0) rfl
 have xf:=X0.out.fz
 have xl:=X0.out.lt
 by_cases hm0:m=0
 ·rw [if_pos hm0] at hR0
  have HR:=hid hR0
  subst hm0
  clear hR0
  go_wp2_with fail
  refine bodyPost_ret (v:=.tuple #[lineV 0 ⟨#[]⟩ zeroTV (.slice none 0 0),.int .i64 ((n:Int)+1),.int .i64 32]) (by simp [results,Tryz.results24,lineV,zeroTV,x0,x1,x2,x3,x4,x5,x6,x7,x8,xf,go_sem]) rfl ?_
  rw [<-HR.out]
  exact ⟨rfl,set_nine HB0.out (Nat.le_refl _) _ _ _ _ _ _ _ _ _⟩
 ·rw [if_neg hm0] at hR0
  have hne:¬((n+1+m:Nat):Int)=((n+1:Nat):Int):=by omega
  have hne2:(((n+1+m:Nat):Int)==((n+1:Nat):Int))=false:=by simp;omega
  have hi0:(0:Int)<=((n+1:Nat):Int):=Int.natCast_nonneg _
  have hi1:((n+1:Nat):Int)<=((n+1+m:Nat):Int):=Int.ofNat_le.2 (Nat.le_add_right _ _)
  have hi2:((n+1+m:Nat):Int)<=(S.size:Int):=Int.ofNat_le.2 hml
  have hi3:(0:Int)<=((n+1+m:Nat):Int):=Int.natCast_nonneg _
  have hnm:bytes (((bl S).drop (n+1)).take m)=S.extract (n+1) (n+1+m):=by
   rw [<-bytes_extract S (n+1) (n+1+m),show n+1+m-(n+1)=m from by omega]
  have hrs:bytes ((bl S).drop (n+1+m))=S.extract (n+1+m) S.size:=by
   rw [<-bytes_extract S (n+1+m) S.size,List.take_of_length_le (by rw [List.length_drop,bl_len];exact Nat.le_refl _)]
  have HNm:=hid hnm
  have HTr:=hid (fun W=>trim_is (S.extract (n+1+m) S.size) W (by rw [ByteArray.size_extract];omega))
  rw [<-hrs,show bl (bytes ((bl S).drop (n+1+m)))=(bl S).drop (n+1+m) from by simp [bytes,bl],hrs] at HTr
  clear hnm hrs
  obtain ⟨tr,htr⟩:∃ tr,tr=trim ((bl S).drop (n+1+m)):=⟨_,rfl⟩
  rw [<-htr] at hR0 HTr
  have HR:=hid hR0
  clear hR0 htr
  go_upto_region 7 with fail
  generalize hw1':World.alloc wc _=w1
  have X1:=hid (show Boxd w1 wc.heap.size #[.int .i64 4,.string (S.extract (n+1) (n+1+m)),.int .i64 0,.string ⟨#[]⟩,.int .i64 0,.slice none 0 0,.slice none 0 0,.slice none 0 0,.slice none 0 0] from hw1'▸Boxd.new wc _ 40)
  have hb1:Below wc.heap.size wc w1:=hw1'▸(Below.refl _ _).alloc (Nat.le_refl _) _
  have X01:=hid (X0.out.later hb1)
  have HB1:=hid (HB0.out.trans (hb1.mono HB0.out.size))
  clear hw1' hb1 x0 x1 x2 x3 x4 x5 x6 x7 x8 xf xl
  go_upto_region 8 with (go_at_call 49;refine (HTr.out _).mono ?_;rintro e w2 ⟨rfl,hb2⟩;have X2:=hid (X1.out.later hb2);have X02:=hid (X01.out.later hb2);have HB2:=hid (HB1.out.trans (hb2.mono HB1.out.size));have HN2:=hid (And.intro (show w.heap.size<wc.heap.size from X0.out.lt) X02.out.lt);clear hb2)
  have hgne:¬w.heap.size=wc.heap.size:=Nat.ne_of_lt HN2.out.1
  have hgne':¬wc.heap.size=w.heap.size:=fun e=>hgne e.symm
  have x0:=X02.out.cell 0 (.int .i64 0) rfl
  have x1:=X02.out.cell 1 (.string ⟨#[]⟩) rfl
  have x2:=X02.out.cell 2 (.int .i64 0) rfl
  have x3:=X02.out.cell 3 (.string ⟨#[]⟩) rfl
  have x4:=X02.out.cell 4 (.int .i64 0) rfl
  have x5:=X02.out.cell 5 (.slice none 0 0) rfl
  have x6:=X02.out.cell 6 (.slice none 0 0) rfl
  have x7:=X02.out.cell 7 (.slice none 0 0) rfl
  have x8:=X02.out.cell 8 (.slice none 0 0) rfl
  have xf:=X02.out.fz
  have xl:=X02.out.lt
  have y0:=X2.out.cell 0 (.int .i64 4) rfl
  have y1:=X2.out.cell 1 (.string (S.extract (n+1) (n+1+m))) rfl
  have y2:=X2.out.cell 2 (.int .i64 0) rfl
  have y3:=X2.out.cell 3 (.string ⟨#[]⟩) rfl
  have y4:=X2.out.cell 4 (.int .i64 0) rfl
  have y5:=X2.out.cell 5 (.slice none 0 0) rfl
  have y6:=X2.out.cell 6 (.slice none 0 0) rfl
  have y7:=X2.out.cell 7 (.slice none 0 0) rfl
  have y8:=X2.out.cell 8 (.slice none 0 0) rfl
  have yf:=X2.out.fz
  have yl:=X2.out.lt
  by_cases ht:tr=[]
  ·have ht1:(bytes tr).toList.isEmpty=true:=by rw [ByteArray.toList_eq,ht];rfl
   have ht2:(bytes tr).toList=[]:=by rw [ByteArray.toList_eq,ht];rfl
   have ht3:(!(bytes tr).toList.isEmpty)=false:=by rw [ht1];rfl
   rw [if_pos ht] at HR
   clear ht
   go_upto_region 10 with fail
   go_wp2_with fail
   refine bodyPost_ret (v:=.tuple #[lineV 4 (bytes (((bl S).drop (n+1)).take m)) zeroTV (.slice none 0 0),.int .i64 0,.int .i64 0]) (by simp [results,Tryz.results24,lineV,zeroTV,HNm.out,x0,x1,x2,x3,x4,x5,x6,x7,x8,xf,go_sem]) rfl ?_
   rw [<-HR.out]
   exact ⟨_,rfl,⟨_,rfl,rfl⟩,set_nine HB2.out (Nat.le_refl _) _ _ _ _ _ _ _ _ _⟩
  ·have ht1:(bytes tr).toList.isEmpty=false:=by
    rw [ByteArray.toList_eq]
    simpa [bytes] using ht
   have ht2:¬(bytes tr).toList=[]:=by
    rw [ByteArray.toList_eq]
    simpa [bytes] using ht
   have ht3:(!(bytes tr).toList.isEmpty)=true:=by rw [ht1];rfl
   rw [if_neg ht] at HR
   clear ht
   obtain ⟨is0,his0,hz0,hz1,hz2⟩:=info_parts info_text
   go_upto_region 10 with (first
    |(with_reducible refine wpList_buildSlice (by rfl) 38 9 1 _ (by rfl) #[.string (bytes tr)] is0 _ (by kernel_rfl) his0 hz0 (by rw [hz1];decide) (by rw [hz1];decide) (by rw [hz1];kernel_rfl) ?_;generalize hWb:World.alloc w2 _=w3;have hbb:Below w2.heap.size w2 w3:=hWb▸(Below.refl _ _).alloc (Nat.le_refl _) _;have XT:=hid (show Boxd w3 w2.heap.size #[.string (bytes tr)] from hWb▸Boxd.new w2 _ 9);have X3:=hid (X2.out.later hbb);have X03:=hid (X02.out.later hbb);have HB3:=hid (HB2.out.trans (hbb.mono HB2.out.size));clear hWb hbb x0 y0 x1 y1 x2 y2 x3 y3 x4 y4 x5 y5 x6 y6 x7 y7 x8 y8 xf xl yf yl;obtain ⟨x0,x1,x2,x3,x4,x5,x6,x7,x8⟩:=X03.out.r9 (.int .i64 0) (.string ⟨#[]⟩) (.int .i64 0) (.string ⟨#[]⟩) (.int .i64 0) (.slice none 0 0) (.slice none 0 0) (.slice none 0 0) (.slice none 0 0) rfl;have xf:=X03.out.fz;have xl:=X03.out.lt;obtain ⟨y0,y1,y2,y3,y4,y5,y6,y7,y8⟩:=X3.out.r9 (.int .i64 4) (.string (S.extract (n+1) (n+1+m))) (.int .i64 0) (.string ⟨#[]⟩) (.int .i64 0) (.slice none 0 0) (.slice none 0 0) (.slice none 0 0) (.slice none 0 0) rfl;have yf:=X3.out.fz;have yl:=X3.out.lt))
   all_goals
    generalize hW4:World.setCell w3 _ _=w4
    have X4:=hid (show Boxd w4 wc.heap.size #[.int .i64 4,.string (S.extract (n+1) (n+1+m)),.int .i64 0,.string ⟨#[]⟩,.int .i64 0,.slice none 0 0,.slice none 0 0,.slice none 0 0,.slice (some ⟨w2.heap.size,0,none⟩) 1 1] from by rw [<-hW4];simpa using X3.out.put 8 (.slice (some ⟨w2.heap.size,0,none⟩) 1 1) (by simp))
    have hne4:wc.heap.size≠w2.heap.size:=Nat.ne_of_lt X2.out.lt
    have X04:=hid (show Boxd w4 w.heap.size lineZ from by rw [<-hW4];exact X03.out.kept (Below.heap_setCell _ _ _ _ hgne) (by simp [World.setCell]))
    have XT4:=hid (show Boxd w4 w2.heap.size #[.string (bytes tr)] from by rw [<-hW4];exact XT.out.kept (Below.heap_setCell _ _ _ _ (fun e=>hne4 e.symm)) (by simp [World.setCell]))
    have HB4:=hid (show Below w.heap.size w w4 from by rw [<-hW4];exact HB3.out.setCell (p:=⟨wc.heap.size,8,none⟩) (Nat.le_of_lt HN2.out.1) _)
    have HNe:=hid (show w.heap.size≠w2.heap.size from Nat.ne_of_lt HN2.out.2)
    clear hW4 x0 y0 x1 y1 x2 y2 x3 y3 x4 y4 x5 y5 x6 y6 x7 y7 x8 y8 xf xl yf yl hne4
    have x0:=X04.out.cell 0 (.int .i64 0) rfl
    have x1:=X04.out.cell 1 (.string ⟨#[]⟩) rfl
    have x2:=X04.out.cell 2 (.int .i64 0) rfl
    have x3:=X04.out.cell 3 (.string ⟨#[]⟩) rfl
    have x4:=X04.out.cell 4 (.int .i64 0) rfl
    have x5:=X04.out.cell 5 (.slice none 0 0) rfl
    have x6:=X04.out.cell 6 (.slice none 0 0) rfl
    have x7:=X04.out.cell 7 (.slice none 0 0) rfl
    have x8:=X04.out.cell 8 (.slice none 0 0) rfl
    have xf:=X04.out.fz
    have xl:=X04.out.lt
    have y0:=X4.out.cell 0 (.int .i64 4) rfl
    have y1:=X4.out.cell 1 (.string (S.extract (n+1) (n+1+m))) rfl
    have y2:=X4.out.cell 2 (.int .i64 0) rfl
    have y3:=X4.out.cell 3 (.string ⟨#[]⟩) rfl
    have y4:=X4.out.cell 4 (.int .i64 0) rfl
    have y5:=X4.out.cell 5 (.slice none 0 0) rfl
    have y6:=X4.out.cell 6 (.slice none 0 0) rfl
    have y7:=X4.out.cell 7 (.slice none 0 0) rfl
    have y8:=X4.out.cell 8 (.slice (some ⟨w2.heap.size,0,none⟩) 1 1) rfl
    have yf:=X4.out.fz
    have yl:=X4.out.lt
    go_wp2_with fail
    refine bodyPost_ret (v:=.tuple #[lineV 4 (bytes (((bl S).drop (n+1)).take m)) zeroTV (.slice (some ⟨w2.heap.size,0,none⟩) 1 1),.int .i64 0,.int .i64 0]) (by simp [results,Tryz.results24,lineV,zeroTV,HNm.out,x0,x1,x2,x3,x4,x5,x6,x7,x8,xf,go_sem]) rfl ?_
    rw [<-HR.out]
    refine ⟨_,rfl,⟨_,rfl,w2.heap.size,rfl,?_,Nat.le_of_lt HN2.out.2⟩,set_nine HB4.out (Nat.le_refl _) _ _ _ _ _ _ _ _ _⟩
    have hne:=HNe.out
    simp [go_sem,XT4.out.cell 0 (.string (bytes tr)) rfl,hne,hne.symm]
end Pz
open Go.RowKit
namespace Pz
theorem set_sixB {B:Nat} {w w0:World} (h:Below B w w0) {b:Nat} (hb:B<=b) (v0 v1 v2 v3 v4 v5:Value):Below B w ((((((w0.setCell ⟨b,0,none⟩ v0).setCell ⟨b,1,none⟩ v1).setCell ⟨b,2,none⟩ v2).setCell ⟨b,3,none⟩ v3).setCell ⟨b,4,none⟩ v4).setCell ⟨b,5,none⟩ v5):=
 (((((h.setCell (p:=⟨b,0,none⟩) hb v0).setCell (p:=⟨b,1,none⟩) hb v1).setCell (p:=⟨b,2,none⟩) hb v2).setCell (p:=⟨b,3,none⟩) hb v3).setCell (p:=⟨b,4,none⟩) hb v4).setCell (p:=⟨b,5,none⟩) hb v5
theorem own_six {w0:World} {t:T} {y:TV} {G:List Nat} (h:Own w0 t y G) {b:Nat} (hb:b ∉ G) (v0 v1 v2 v3 v4 v5:Value):Own ((((((w0.setCell ⟨b,0,none⟩ v0).setCell ⟨b,1,none⟩ v1).setCell ⟨b,2,none⟩ v2).setCell ⟨b,3,none⟩ v3).setCell ⟨b,4,none⟩ v4).setCell ⟨b,5,none⟩ v5) t y G:=
 own_set (own_set (own_set (own_set (own_set (own_set h hb v0) hb v1) hb v2) hb v3) hb v4) hb v5
set_option maxRecDepth 100000 in
theorem verbF_calls (S:ByteArray) (w:World) (hv:Vars w):Calls Tryz.prog 8 #[.string S] w (PRead w (read (bl S) 3)):=by
 have X0:=hid (Boxd.new w zeroT 34)
 have HB0:=hid ((Below.refl w.heap.size w).alloc (Nat.le_refl _) (.cells zeroT 34))
 generalize hw0:w.alloc (.cells zeroT 34)=w0 at X0 HB0
 have HW0:=hid hw0
 have HV0:=hid (hv.later HB0.out (Nat.le_refl _))
 have HRd:=hid (read_calls S 3 w0 HV0.out)
 clear hw0 hv
 obtain ⟨R0,hR0⟩:∃ R0,read (bl S) 3=R0:=⟨_,rfl⟩
 rw [hR0] at HRd ⊢
 clear hR0
 cases R0 with
 |ok t=>
  go_enter Tryz.func8,Tryz.ntmps8
  go_upto_region 1 with fail
  rw [HW0.out]
  go_wp2_with (go_at_call 22;refine HRd.out.mono ?_;intro e w1 hp;obtain ⟨y,G,rfl,hO,hG,hb⟩:=hp;have X1:=hid (X0.out.later hb);have HB1:=hid (HB0.out.trans (hb.mono HB0.out.size));have HO:=hid hO;have HG:=hid hG;have HS:=hid hb.size;clear hO hG hb;simp only [TV.val,TV.cells];obtain ⟨c0,c1,c2,c3,c4,c5⟩:=X1.out.rz rfl;have cf:=X1.out.fz;have cl:=X1.out.lt)
  refine bodyPost_ret (v:=.tuple #[y.val,.int .i64 0,.int .i64 0]) (by simp [results,Tryz.results8,TV.val,TV.cells,c0,c1,c2,c3,c4,c5,cf,go_sem]) rfl ?_
  exact ⟨y,G,rfl,own_six HO.out (HG.out.not_mem (by simp) X0.out.lt) _ _ _ _ _ _,(HG.out.mono HB0.out.size (by simp [World.setCell])),set_sixB HB1.out (Nat.le_refl _) _ _ _ _ _ _⟩
 |bad c p=>
  go_enter Tryz.func8,Tryz.ntmps8
  go_upto_region 1 with fail
  rw [HW0.out]
  go_wp2_with (go_at_call 22;refine HRd.out.mono ?_;intro e w1 hp;obtain ⟨rfl,hb⟩:=hp;have X1:=hid (X0.out.later hb);have HB1:=hid (HB0.out.trans (hb.mono HB0.out.size));clear hb;obtain ⟨c0,c1,c2,c3,c4,c5⟩:=X1.out.rz rfl;have cf:=X1.out.fz;have cl:=X1.out.lt)
  refine bodyPost_ret (v:=.tuple #[zeroTerm,.int .i64 p,.int .i64 c]) (by simp [results,Tryz.results8,TV.val,TV.cells,c0,c1,c2,c3,c4,c5,cf,go_sem]) rfl ?_
  exact ⟨rfl,set_sixB HB1.out (Nat.le_refl _) _ _ _ _ _ _⟩
set_option maxRecDepth 100000 in
theorem nounF_calls (S:ByteArray) (w:World) (hv:Vars w):Calls Tryz.prog 9 #[.string S] w (PRead w (read (bl S) 1)):=by
 have X0:=hid (Boxd.new w zeroT 34)
 have HB0:=hid ((Below.refl w.heap.size w).alloc (Nat.le_refl _) (.cells zeroT 34))
 generalize hw0:w.alloc (.cells zeroT 34)=w0 at X0 HB0
 have HW0:=hid hw0
 have HV0:=hid (hv.later HB0.out (Nat.le_refl _))
 have HRd:=hid (read_calls S 1 w0 HV0.out)
 clear hw0 hv
 obtain ⟨R0,hR0⟩:∃ R0,read (bl S) 1=R0:=⟨_,rfl⟩
 rw [hR0] at HRd ⊢
 clear hR0
 cases R0 with
 |ok t=>
  go_enter Tryz.func9,Tryz.ntmps9
  go_upto_region 1 with fail
  rw [HW0.out]
  go_wp2_with (go_at_call 22;refine HRd.out.mono ?_;intro e w1 hp;obtain ⟨y,G,rfl,hO,hG,hb⟩:=hp;have X1:=hid (X0.out.later hb);have HB1:=hid (HB0.out.trans (hb.mono HB0.out.size));have HO:=hid hO;have HG:=hid hG;have HS:=hid hb.size;clear hO hG hb;simp only [TV.val,TV.cells];obtain ⟨c0,c1,c2,c3,c4,c5⟩:=X1.out.rz rfl;have cf:=X1.out.fz;have cl:=X1.out.lt)
  refine bodyPost_ret (v:=.tuple #[y.val,.int .i64 0,.int .i64 0]) (by simp [results,Tryz.results9,TV.val,TV.cells,c0,c1,c2,c3,c4,c5,cf,go_sem]) rfl ?_
  exact ⟨y,G,rfl,own_six HO.out (HG.out.not_mem (by simp) X0.out.lt) _ _ _ _ _ _,(HG.out.mono HB0.out.size (by simp [World.setCell])),set_sixB HB1.out (Nat.le_refl _) _ _ _ _ _ _⟩
 |bad c p=>
  go_enter Tryz.func9,Tryz.ntmps9
  go_upto_region 1 with fail
  rw [HW0.out]
  go_wp2_with (go_at_call 22;refine HRd.out.mono ?_;intro e w1 hp;obtain ⟨rfl,hb⟩:=hp;have X1:=hid (X0.out.later hb);have HB1:=hid (HB0.out.trans (hb.mono HB0.out.size));clear hb;obtain ⟨c0,c1,c2,c3,c4,c5⟩:=X1.out.rz rfl;have cf:=X1.out.fz;have cl:=X1.out.lt)
  refine bodyPost_ret (v:=.tuple #[zeroTerm,.int .i64 p,.int .i64 c]) (by simp [results,Tryz.results9,TV.val,TV.cells,c0,c1,c2,c3,c4,c5,cf,go_sem]) rfl ?_
  exact ⟨rfl,set_sixB HB1.out (Nat.le_refl _) _ _ _ _ _ _⟩
theorem Three.line {w0 W:World} {a0 a1 a2 a3 a4 a5 a6 a7 a8:Value} {a e:Int} (h:Three w0 #[a0,a1,a2,a3,a4,a5,a6,a7,a8] a e W) (v0 v1 v2 v3 v4 v5 v6 v7 v8:Value):
 Three w0 #[v0,v1,v2,v3,v4,v5,v6,v7,v8] a e (((((((((W.setCell ⟨w0.heap.size,0,none⟩ v0).setCell ⟨w0.heap.size,1,none⟩ v1).setCell ⟨w0.heap.size,2,none⟩ v2).setCell ⟨w0.heap.size,3,none⟩ v3).setCell ⟨w0.heap.size,4,none⟩ v4).setCell ⟨w0.heap.size,5,none⟩ v5).setCell ⟨w0.heap.size,6,none⟩ v6).setCell ⟨w0.heap.size,7,none⟩ v7).setCell ⟨w0.heap.size,8,none⟩ v8):=by
 have e:(#[v0,v1,v2,v3,v4,v5,v6,v7,v8]:Array Value)=((((((((((#[a0,a1,a2,a3,a4,a5,a6,a7,a8]:Array Value).setIfInBounds 0 v0).setIfInBounds 1 v1).setIfInBounds 2 v2).setIfInBounds 3 v3).setIfInBounds 4 v4).setIfInBounds 5 v5).setIfInBounds 6 v6).setIfInBounds 7 v7).setIfInBounds 8 v8):=by simp
 rw [e]
 have h0:=h.set0 0 (by simp) v0
 have h1:=h0.set0 1 (by simp) v1
 have h2:=h1.set0 2 (by simp) v2
 have h3:=h2.set0 3 (by simp) v3
 have h4:=h3.set0 4 (by simp) v4
 have h5:=h4.set0 5 (by simp) v5
 have h6:=h5.set0 6 (by simp) v6
 have h7:=h6.set0 7 (by simp) v7
 exact h7.set0 8 (by simp) v8
theorem eleven_rest {W:World} {z:Nat} (b:Nat) (hb:z+3<=b) (v0 v1 v2 v3 v4 v5 v6 v7 v8 u1 u2:Value):(((((((((((W.setCell ⟨z,0,none⟩ v0).setCell ⟨z,1,none⟩ v1).setCell ⟨z,2,none⟩ v2).setCell ⟨z,3,none⟩ v3).setCell ⟨z,4,none⟩ v4).setCell ⟨z,5,none⟩ v5).setCell ⟨z,6,none⟩ v6).setCell ⟨z,7,none⟩ v7).setCell ⟨z,8,none⟩ v8).setCell ⟨z+1,0,none⟩ u1).setCell ⟨z+1+1,0,none⟩ u2).heap[b]? =W.heap[b]? :=by
 rw [Below.heap_setCell _ _ _ _ (by simp;omega),Below.heap_setCell _ _ _ _ (by simp;omega),Below.heap_setCell _ _ _ _ (by simp;omega),Below.heap_setCell _ _ _ _ (by simp;omega),Below.heap_setCell _ _ _ _ (by simp;omega),Below.heap_setCell _ _ _ _ (by simp;omega),Below.heap_setCell _ _ _ _ (by simp;omega),Below.heap_setCell _ _ _ _ (by simp;omega),Below.heap_setCell _ _ _ _ (by simp;omega),Below.heap_setCell _ _ _ _ (by simp;omega),Below.heap_setCell _ _ _ _ (by simp;omega)]
theorem ArgsAt.kept {w w3 w7 w8:World} {a:Option (List UInt8)} {av:Value} (h:ArgsAt w3 w7 a av) (hs:w.heap.size<=w3.heap.size) (hk:∀ b,w3.heap.size<=b->w8.heap[b]? =w7.heap[b]?):ArgsAt w w8 a av:=by
 cases a with
 |none=>exact h
 |some s=>
  obtain ⟨b,h1,h2,h3⟩:=h
  exact ⟨b,h1,(cell_of_heap (hk b h3)).trans h2,Nat.le_trans hs h3⟩
theorem request_form (s:List UInt8) (n:Nat) {l:L} (h:request s n=.ok l):∃ nm a,l=.request nm a:=by
 unfold request at h
 dsimp only at h
 split at h
 ·cases h
 ·injection h with h
  exact ⟨_,_,h.symm⟩
theorem line_long {s:List UInt8} (h:4096<s.length):line s=.bad 2 0:=by
 unfold line
 rw [if_pos h]
theorem line_req {s:List UInt8} (h:¬4096<s.length) (h2:s[span (·==32) s]? =some 41):line s=request s (span (·==32) s):=by
 unfold line
 rw [if_neg h]
 dsimp only
 rw [if_pos h2]
def ofWords (s:List UInt8) (ws:List W):R L:=
 match ws with
 |[]=>.ok .none
 |w::q=>
  match q with
  |v::_=>
   if v.kind=7/\v.text=[61,58] then
    if w.kind≠2/\w.kind≠3 then .bad 32 w.at_
    else (all ws s.length 2 (if w.kind=3 then 3 else 1) (place ws s.length 2)).andThen fun t=>.ok (.named w.kind w.text t)
   else (all ws s.length 0 1 (place ws s.length 0)).andThen fun t=>.ok (.noun t)
  |[]=>(all ws s.length 0 1 (place ws s.length 0)).andThen fun t=>.ok (.noun t)
theorem line_words {s:List UInt8} (h:¬4096<s.length) (h2:¬s[span (·==32) s]? =some 41):line s=(cut s).andThen (ofWords s):=by
 unfold line
 rw [if_neg h]
 dsimp only
 rw [if_neg h2]
 rfl
theorem of_noun {s:List UInt8} {ws:List W} (h0:ws≠[]) (h1:∀ v,ws[1]? =some v->¬(v.kind=7/\v.text=[61,58])):ofWords s ws=(all ws s.length 0 1 (place ws s.length 0)).andThen fun t=>.ok (.noun t):=by
 match ws,h0 with
 |[w],_=>rfl
 |w::v::q,_=>
  unfold ofWords
  dsimp only
  rw [if_neg (h1 v rfl)]
theorem of_bad {s:List UInt8} {ws:List W} {x v:W} (h0:ws[0]? =some x) (h1:ws[1]? =some v) (h2:v.kind=7/\v.text=[61,58]) (h3:x.kind≠2/\x.kind≠3):ofWords s ws=.bad 32 x.at_:=by
 match ws,h0,h1 with
 |w::v'::q,h0,h1=>
  cases h0
  cases h1
  unfold ofWords
  dsimp only
  rw [if_pos h2,if_pos h3]
theorem of_named {s:List UInt8} {ws:List W} {x v:W} (h0:ws[0]? =some x) (h1:ws[1]? =some v) (h2:v.kind=7/\v.text=[61,58]) {k cl:Int} (hk:x.kind=k) (h3:(k=2/\cl=1)\/(k=3/\cl=3)):ofWords s ws=(all ws s.length 2 cl (place ws s.length 2)).andThen fun t=>.ok (.named k x.text t):=by
 match ws,h0,h1 with
 |w::v'::q,h0,h1=>
  cases h0
  cases h1
  unfold ofWords
  dsimp only
  rw [if_pos h2,if_neg (by omega),hk]
  rcases h3 with ⟨rfl,rfl⟩|⟨rfl,rfl⟩
  ·rw [if_neg (by decide)]
  ·rw [if_pos rfl]
theorem dropWhile_span (l:List UInt8) (p:UInt8->Bool):l.dropWhile p=l.drop (span p l):=by
 induction l with
 |nil=>rfl
 |cons c r ih=>
  by_cases hc:p c=true
  ·rw [List.dropWhile_cons_of_pos hc,ih,span,if_pos hc,List.drop_succ_cons]
  ·rw [List.dropWhile_cons_of_neg hc,span,if_neg hc,List.drop_zero]
theorem left_is (S:ByteArray):∃ Q:ByteArray,Q.size=S.size-span (·==32) (bl S)/\∀ w,Calls Tryz.prog 23 #[.string S,.string ⟨#[32]⟩] w fun e w'=>e=.returned (.string Q)/\w'=w:=by
 refine ⟨⟨(Lib.trimLeftB S.data.toList 32).toArray⟩,?_,fun w=>Tryz.strings_TrimLeft_one S 32 (by decide) w⟩
 have h:=congrArg List.length (dropWhile_span (bl S) (·==32))
 rw [List.length_drop,bl_len] at h
 rw [<-h]
 unfold Lib.trimLeftB bl
 simp [ByteArray.size]
end Pz
open Go.RowKit
namespace Pz
theorem request_is {S:ByteArray} (hS:S.size<=4096) {n:Nat} (hn:n<S.size) {r:R L} (hr:request (bl S) n=r) (w:World):Calls Tryz.prog 24 #[.string S,.int .i64 (n:Int)] w (PLine w r):=hr▸request_calls hS hn w
theorem ArgsAt.form {w w':World} {a:Option (List UInt8)} {av:Value} (h:ArgsAt w w' a av):∃ A n k,av=.slice A n k:=by
 cases a with
 |none=>exact ⟨_,_,_,h⟩
 |some s=>
  obtain ⟨b,h1,-⟩:=h
  exact ⟨_,_,_,h1⟩
theorem span_in (p:UInt8->Bool) (S:ByteArray):span p (bl S)<=S.size:=by
 have:=span_le p (bl S)
 rwa [bl_len] at this
set_option maxRecDepth 100000 in
set_option maxHeartbeats 4000000 in
theorem line_a (S:ByteArray) (w:World) (hv:Vars w) (hbig:4096<S.size):Calls Tryz.prog 10 #[.string S] w (PLine w (line (bl S))):=by
 have hmf:∀ (fn:Fn) (first cap:Array Value) (w:World),(Instr.makeFunc fn first cap).run Tryz.prog w=.ok (.func fn first cap) w:=fun _ _ _ _=>rfl
 have T0:=hid (Three.new w lineZ 40 3 35)
 generalize hw3:((w.alloc (.cells lineZ 40)).alloc (.cells #[.int .i64 0] 3)).alloc (.cells #[.int .i64 0] 35)=w3 at T0
 have HVl:=hid hv.lt
 have HV3:=hid (hv.later T0.out.below (Nat.le_refl _))
 have HW3:=hid hw3
 clear hv hw3
 obtain ⟨R0,hR0⟩:∃ R0,line (bl S)=R0:=⟨_,rfl⟩
 rw [hR0]
 have hb:(4096:Int)<(S.size:Int):=Int.ofNat_lt.2 hbig
 rw [line_long (by rw [bl_len];exact hbig)] at hR0
 have HR:=hid hR0
 clear hR0
 go_enter_defers Tryz.func10,Tryz.ntmps10
 go_upto_region 1 with fail
 rw [HW3.out]
 have c0:=T0.out.b0.cell 0 (.int .i64 0) rfl
 have c1:=T0.out.b0.cell 1 (.string ⟨#[]⟩) rfl
 have c2:=T0.out.b0.cell 2 (.int .i64 0) rfl
 have c3:=T0.out.b0.cell 3 (.string ⟨#[]⟩) rfl
 have c4:=T0.out.b0.cell 4 (.int .i64 0) rfl
 have c5:=T0.out.b0.cell 5 (.slice none 0 0) rfl
 have c6:=T0.out.b0.cell 6 (.slice none 0 0) rfl
 have c7:=T0.out.b0.cell 7 (.slice none 0 0) rfl
 have c8:=T0.out.b0.cell 8 (.slice none 0 0) rfl
 have cf:=T0.out.b0.fz
 have cl:=T0.out.b0.lt
 have r1c:=T0.out.b1.cell 0 (.int .i64 0) rfl
 have r1f:=T0.out.b1.fz
 have r1l:=T0.out.b1.lt
 have r2c:=T0.out.b2.cell 0 (.int .i64 0) rfl
 have r2f:=T0.out.b2.fz
 have r2l:=T0.out.b2.lt
 go_wp2_with fail
 generalize hW6:World.setCell (World.setCell _ _ _) _ _=w6
 have T6:=hid (show Three w lineZ 0 2 w6 from by rw [<-hW6];exact ((T0.out.line _ _ _ _ _ _ _ _ _).set1 0 rfl).set2 2 rfl)
 clear hW6
 clear c0 c1 c2 c3 c4 c5 c6 c7 c8 cf cl r1c r1f r1l r2c r2f r2l
 have c0:=T6.out.b0.cell 0 (.int .i64 0) rfl
 have c1:=T6.out.b0.cell 1 (.string ⟨#[]⟩) rfl
 have c2:=T6.out.b0.cell 2 (.int .i64 0) rfl
 have c3:=T6.out.b0.cell 3 (.string ⟨#[]⟩) rfl
 have c4:=T6.out.b0.cell 4 (.int .i64 0) rfl
 have c5:=T6.out.b0.cell 5 (.slice none 0 0) rfl
 have c6:=T6.out.b0.cell 6 (.slice none 0 0) rfl
 have c7:=T6.out.b0.cell 7 (.slice none 0 0) rfl
 have c8:=T6.out.b0.cell 8 (.slice none 0 0) rfl
 have cf:=T6.out.b0.fz
 have cl:=T6.out.b0.lt
 have r1c:=T6.out.b1.cell 0 (.int .i64 0) rfl
 have r1f:=T6.out.b1.fz
 have r1l:=T6.out.b1.lt
 have r2c:=T6.out.b2.cell 0 (.int .i64 2) rfl
 have r2f:=T6.out.b2.fz
 have r2l:=T6.out.b2.lt
 refine ⟨.tuple #[lineV 0 ⟨#[]⟩ zeroTV (.slice none 0 0),.int .i64 0,.int .i64 2],by simp [results,Tryz.results10,lineV,zeroTV,TV.val,TV.cells,c0,c1,c2,c3,c4,c5,c6,c7,c8,cf,r1c,r1f,r2c,r2f,go_sem],?_⟩
 rw [<-HR.out]
 exact ⟨rfl,T6.out.below⟩
set_option maxRecDepth 100000 in
set_option maxHeartbeats 4000000 in
theorem line_b (S:ByteArray) (w:World) (hv:Vars w) (hbig:¬4096<S.size) (hrq:(bl S)[span (·==32) (bl S)]? =some 41):Calls Tryz.prog 10 #[.string S] w (PLine w (line (bl S))):=by
 have hmf:∀ (fn:Fn) (first cap:Array Value) (w:World),(Instr.makeFunc fn first cap).run Tryz.prog w=.ok (.func fn first cap) w:=fun _ _ _ _=>rfl
 have T0:=hid (Three.new w lineZ 40 3 35)
 generalize hw3:((w.alloc (.cells lineZ 40)).alloc (.cells #[.int .i64 0] 3)).alloc (.cells #[.int .i64 0] 35)=w3 at T0
 have HVl:=hid hv.lt
 have HV3:=hid (hv.later T0.out.below (Nat.le_refl _))
 have HW3:=hid hw3
 clear hv hw3
 obtain ⟨R0,hR0⟩:∃ R0,line (bl S)=R0:=⟨_,rfl⟩
 rw [hR0]
 have hb:¬(4096:Int)<(S.size:Int):=fun h=>hbig (Int.ofNat_lt.1 h)
 have hS:S.size<=4096:=Nat.le_of_not_lt hbig
 have hfl:=span_in (·==32) S
 obtain ⟨Q,hQ,hleft⟩:=left_is S
 obtain ⟨f,hf⟩:∃ f,f=span (·==32) (bl S):=⟨_,rfl⟩
 have hreq:=@line_req (bl S) (by rw [bl_len];exact hbig)
 have hwds:=@line_words (bl S) (by rw [bl_len];exact hbig)
 rw [<-hf] at hfl hQ hreq hwds hrq
 have HLeft:=hid hleft
 have hf0:(0:Int)<=(f:Int):=Int.natCast_nonneg _
 have hf1:(f:Int)<=(S.size:Int):=Int.ofNat_le.2 hfl
 have HQ:=hid (And.intro hQ hfl)
 have HS:=hid hS
 clear hleft hQ hf hbig
 rw [hR0] at hreq hwds
 clear hR0
 obtain ⟨hq,h41⟩:∃ hq:f<S.size,S[f]=41:=by
  have hq:=(List.getElem?_eq_some_iff.1 hrq).1
  rw [bl_len] at hq
  rw [bl_get S f hq] at hrq
  exact ⟨hq,Option.some.inj hrq⟩
 have d1:(f:Int)<(S.size:Int):=Int.ofNat_lt.2 hq
 have t41:((S[f].toNat:Int)==41)=true:=by rw [h41];rfl
 have hr:=hreq (by rw [bl_get S f hq,h41])
 clear hreq hwds h41 hrq
 go_enter_defers Tryz.func10,Tryz.ntmps10
 go_upto_region 1 with fail
 rw [HW3.out]
 go_upto_region 3 with fail
 go_cut [5] from 10 (fun v wq=>v=.int .i64 (f:Int)/\wq=w3)
 case first=>
  have hQ1:=HQ.out.1
  go_wp2_with (go_at_call 23;refine (HLeft.out _).mono ?_;rintro e w4 ⟨rfl,rfl⟩)
  go_meet
  case rel=>exact ⟨congrArg (Value.int .i64) (by first|omega|(unfold wrap64;omega)),rfl⟩
 case rest=>
 obtain ⟨rfl,hwc⟩:=hcut
 subst hwc
 cases hR:request (bl S) f with
 |ok l=>
  obtain ⟨nm,a,rfl⟩:=request_form _ _ hR
  have HCall:=hid (request_is HS.out hq hR wc)
  have HR:=hid (hr.trans hR)
  clear hr hR
  go_wp2_with (go_at_call 24;refine HCall.out.mono ?_;intro e w4 hp;obtain ⟨v,rfl,⟨av,rfl,ha⟩,hb4⟩:=hp;obtain ⟨A9,n9,k9,rfl⟩:=ha.form;have T4:=hid (T0.out.later hb4);have HA:=hid ha;clear ha hb4;simp only [lineV,zeroTV];obtain ⟨c0,c1,c2,c3,c4,c5,c6,c7,c8⟩:=T4.out.b0.r9 (.int .i64 0) (.string ⟨#[]⟩) (.int .i64 0) (.string ⟨#[]⟩) (.int .i64 0) (.slice none 0 0) (.slice none 0 0) (.slice none 0 0) (.slice none 0 0) rfl;have cf:=T4.out.b0.fz;have cl:=T4.out.b0.lt;have r1c:=T4.out.b1.cell 0 (.int .i64 0) rfl;have r1f:=T4.out.b1.fz;have r1l:=T4.out.b1.lt;have r2c:=T4.out.b2.cell 0 (.int .i64 0) rfl;have r2f:=T4.out.b2.fz;have r2l:=T4.out.b2.lt)
  generalize hW6:World.setCell (World.setCell _ _ _) _ _=w6
  have T6:=hid (show Three w #[.int .i64 4,.string (bytes nm),.int .i64 0,.string ⟨#[]⟩,.int .i64 0,.slice none 0 0,.slice none 0 0,.slice none 0 0,.slice A9 n9 k9] 0 0 w6 from by rw [<-hW6];exact ((T4.out.line (.int .i64 4) (.string (bytes nm)) (.int .i64 0) (.string ⟨#[]⟩) (.int .i64 0) (.slice none 0 0) (.slice none 0 0) (.slice none 0 0) (.slice A9 n9 k9)).set1 0 rfl).set2 0 rfl)
  have HA6:=hid (show ArgsAt w w6 a (.slice A9 n9 k9) from HA.out.kept T0.out.below.size (fun b hb'=>by rw [<-hW6];exact eleven_rest b (by have:=T0.out.lt;omega) _ _ _ _ _ _ _ _ _ _ _))
  clear hW6
  clear c0 c1 c2 c3 c4 c5 c6 c7 c8 cf cl r1c r1f r1l r2c r2f r2l
  have c0:=T6.out.b0.cell 0 (.int .i64 4) rfl
  have c1:=T6.out.b0.cell 1 (.string (bytes nm)) rfl
  have c2:=T6.out.b0.cell 2 (.int .i64 0) rfl
  have c3:=T6.out.b0.cell 3 (.string ⟨#[]⟩) rfl
  have c4:=T6.out.b0.cell 4 (.int .i64 0) rfl
  have c5:=T6.out.b0.cell 5 (.slice none 0 0) rfl
  have c6:=T6.out.b0.cell 6 (.slice none 0 0) rfl
  have c7:=T6.out.b0.cell 7 (.slice none 0 0) rfl
  have c8:=T6.out.b0.cell 8 (.slice A9 n9 k9) rfl
  have cf:=T6.out.b0.fz
  have cl:=T6.out.b0.lt
  have r1c:=T6.out.b1.cell 0 (.int .i64 0) rfl
  have r1f:=T6.out.b1.fz
  have r1l:=T6.out.b1.lt
  have r2c:=T6.out.b2.cell 0 (.int .i64 0) rfl
  have r2f:=T6.out.b2.fz
  have r2l:=T6.out.b2.lt
  refine ⟨.tuple #[lineV 4 (bytes nm) zeroTV (.slice A9 n9 k9),.int .i64 0,.int .i64 0],by simp [results,Tryz.results10,lineV,zeroTV,TV.val,TV.cells,c0,c1,c2,c3,c4,c5,c6,c7,c8,cf,r1c,r1f,r2c,r2f,go_sem],?_⟩
  rw [HR.out]
  exact ⟨_,rfl,⟨_,rfl,HA6.out⟩,T6.out.below⟩
 |bad c p=>
  have HCall:=hid (request_is HS.out hq hR wc)
  have HR:=hid (hr.trans hR)
  clear hr hR
  go_wp2_with (go_at_call 24;refine HCall.out.mono ?_;intro e w4 hp;obtain ⟨rfl,hb4⟩:=hp;have T4:=hid (T0.out.later hb4);clear hb4;simp only [lineV,zeroTV];obtain ⟨c0,c1,c2,c3,c4,c5,c6,c7,c8⟩:=T4.out.b0.r9 (.int .i64 0) (.string ⟨#[]⟩) (.int .i64 0) (.string ⟨#[]⟩) (.int .i64 0) (.slice none 0 0) (.slice none 0 0) (.slice none 0 0) (.slice none 0 0) rfl;have cf:=T4.out.b0.fz;have cl:=T4.out.b0.lt;have r1c:=T4.out.b1.cell 0 (.int .i64 0) rfl;have r1f:=T4.out.b1.fz;have r1l:=T4.out.b1.lt;have r2c:=T4.out.b2.cell 0 (.int .i64 0) rfl;have r2f:=T4.out.b2.fz;have r2l:=T4.out.b2.lt)
  generalize hW6:World.setCell (World.setCell _ _ _) _ _=w6
  have T6:=hid (show Three w lineZ p c w6 from by rw [<-hW6];exact ((T4.out.line _ _ _ _ _ _ _ _ _).set1 p rfl).set2 c rfl)
  clear hW6
  clear c0 c1 c2 c3 c4 c5 c6 c7 c8 cf cl r1c r1f r1l r2c r2f r2l
  have c0:=T6.out.b0.cell 0 (.int .i64 0) rfl
  have c1:=T6.out.b0.cell 1 (.string ⟨#[]⟩) rfl
  have c2:=T6.out.b0.cell 2 (.int .i64 0) rfl
  have c3:=T6.out.b0.cell 3 (.string ⟨#[]⟩) rfl
  have c4:=T6.out.b0.cell 4 (.int .i64 0) rfl
  have c5:=T6.out.b0.cell 5 (.slice none 0 0) rfl
  have c6:=T6.out.b0.cell 6 (.slice none 0 0) rfl
  have c7:=T6.out.b0.cell 7 (.slice none 0 0) rfl
  have c8:=T6.out.b0.cell 8 (.slice none 0 0) rfl
  have cf:=T6.out.b0.fz
  have cl:=T6.out.b0.lt
  have r1c:=T6.out.b1.cell 0 (.int .i64 p) rfl
  have r1f:=T6.out.b1.fz
  have r1l:=T6.out.b1.lt
  have r2c:=T6.out.b2.cell 0 (.int .i64 c) rfl
  have r2f:=T6.out.b2.fz
  have r2l:=T6.out.b2.lt
  refine ⟨.tuple #[lineV 0 ⟨#[]⟩ zeroTV (.slice none 0 0),.int .i64 p,.int .i64 c],by simp [results,Tryz.results10,lineV,zeroTV,TV.val,TV.cells,c0,c1,c2,c3,c4,c5,c6,c7,c8,cf,r1c,r1f,r2c,r2f,go_sem],?_⟩
  rw [HR.out]
  exact ⟨rfl,T6.out.below⟩
end Pz
end Go.Proofs.YtpfkhdlnjefikaaGreatDoor
