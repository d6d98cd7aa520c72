/- Package word: name. -/
import Derived.Test.YtpfkhdlnjefikaaGreatDoorQPyE
set_option linter.unusedVariables false
set_option linter.unusedSimpArgs false
namespace Go.Proofs.YtpfkhdlnjefikaaGreatDoor
open Go.RowKit Go.WideMaps Go.Maps
namespace Pz
structure CS (B:Nat) (w:World) (cb mb:Nat) (S:ByteArray) (n:Nat) (ws:List W):Prop where
 ex:∃ wv last rv vs k,CM B w cb mb S n wv last rv vs k/\fixW vs k=ws/\(∀ v,vs.getLast? =some v->v.kind=1->k≠[])/\k.length<=2*n
 len:ws.length<=n
 sz:S.size<=1048576
 le:n<=S.size
 hb:B<=w.heap.size
 vars:Vars w
 gb:2<B/\4<B
theorem CS.later {B:Nat} {w w':World} {cb mb:Nat} {S:ByteArray} {n:Nat} {ws:List W} (h:CS B w cb mb S n ws) (hb:Below w.heap.size w w'):CS B w' cb mb S n ws:=by
 obtain ⟨wv,last,rv,vs,k,h1,h2,h3⟩:=h.ex
 exact ⟨⟨wv,last,rv,vs,k,h1.later hb,h2,h3⟩,h.len,h.sz,h.le,Nat.le_trans h.hb hb.size,h.vars.kept (hb.block _ (Nat.lt_of_lt_of_le h.gb.1 h.hb)) (hb.block _ (Nat.lt_of_lt_of_le h.gb.2 h.hb)),h.gb⟩
theorem CS.cells {B:Nat} {w:World} {cb mb:Nat} {S:ByteArray} {n:Nat} {ws:List W} (h:CS B w cb mb S n ws):w.cell? ⟨cb,0,none⟩=some (.string S)/\w.cell? ⟨cb,1,none⟩=some (.int .i64 (n:Int))/\w.cell? ⟨cb,3,none⟩=some (.map (some mb))/\(∀ o,w.frozen? ⟨cb,o,none⟩=false)/\cb<w.heap.size/\B<=cb:=by
 obtain ⟨wv,last,rv,vs,k,h1,-⟩:=h.ex
 obtain ⟨c0,c1,c2,c3,c4,c5,cf,clt⟩:=h1.cells
 exact ⟨c0,c1,c3,cf,clt,h1.cb0⟩
def PC (B cb mb:Nat) (S:ByteArray) (w:World) (r:R (Nat × List W)) (e:Ending) (w':World):Prop:=
 match r with
 |.ok (m,ws)=>e=.returned (.tuple #[.int .i64 0,.int .i64 0])/\CS B w' cb mb S m ws/\Below B w w'
 |.bad c p=>e=.returned (.tuple #[.int .i64 p,.int .i64 c])/\Below B w w'
theorem put_cs {B:Nat} {w:World} {cb mb:Nat} {S:ByteArray} {n:Nat} {ws:List W} (h:CS B w cb mb S n ws) (kind:Int) (e2:Nat) (h1:n<e2) (h2:e2<=S.size):
 Calls Tryz.prog 78 #[.pointer (some ⟨cb,0,none⟩),.int .i64 kind,.int .i64 (e2:Int)] w fun e w'=>e=.returned (.tuple #[])/\CS B w' cb mb S e2 (ws++[⟨kind,seg S n e2,n⟩])/\Below B w w':=by
 obtain ⟨wv,last,rv,vs,k,hc,hf,hk,-⟩:=h.ex
 have hl:vs.length<=n:=by have:=h.len;rw [<-hf,fixW_len] at this;exact this
 refine (put_calls hc (by have:=h.sz;have:=h.le;omega) hk kind e2 (Nat.le_of_lt h1) h2 h.sz h.hb).mono ?_
 rintro e w' ⟨rfl,⟨wv',rv',hc'⟩,hb⟩
 refine ⟨rfl,⟨⟨wv',_,rv',_,_,hc',?_,fun v hv _=>?_,?_⟩,?_,h.sz,h2,Nat.le_trans h.hb hb.size,h.vars.kept (hb.block _ h.gb.1) (hb.block _ h.gb.2),h.gb⟩,hb⟩
 ·rw [fixW_put (fixW vs k) ⟨kind,seg S n e2,n⟩,hf]
 ·intro he
  have:=seg_len (S:=S) (Nat.le_of_lt h1) h2
  rw [he] at this
  simp at this
  omega
 ·rw [seg_len (Nat.le_of_lt h1) h2]
  omega
 ·have:=h.len
  simp
  omega
theorem put_at {B:Nat} {w:World} {cb mb:Nat} {S:ByteArray} {n:Nat} {ws:List W} (h:CS B w cb mb S n ws) (kind:Int) (e2:Nat) (h1:n<e2) (h2:e2<=S.size) {ev:Int} (hev:ev=(e2:Int)):
 Calls Tryz.prog 78 #[.pointer (some ⟨cb,0,none⟩),.int .i64 kind,.int .i64 ev] w fun e w'=>e=.returned (.tuple #[])/\CS B w' cb mb S e2 (ws++[⟨kind,seg S n e2,n⟩])/\Below B w w':=hev▸put_cs h kind e2 h1 h2
theorem seg_snoc {S:ByteArray} {n e2:Nat} (h1:n<=e2) (h2:e2<S.size):seg S n (e2+1)=seg S n e2++[S[e2]]:=by
 unfold seg
 rw [show e2+1-n=(e2-n)+1 from by omega,List.take_add_one,List.getElem?_drop,show n+(e2-n)=e2 from by omega,bl_get S e2 h2]
 rfl
theorem bl_bytes (l:List UInt8):bl (bytes l)=l:=by simp [bytes,bl]
theorem bytes_app (a b:List UInt8):bytes a++bytes b=bytes (a++b):=by
 apply ByteArray.ext
 rw [ByteArray.data_append]
 simp [bytes]
theorem not_big {m:Nat} (h:m<=1048576):¬9223372036854775807<m+1:=Nat.not_lt.2 (Nat.le_trans (Nat.succ_le_succ h) (by decide))
theorem u8_46 {c:UInt8} (h:(c.toNat:Int)=46):c.toNat=(46:UInt8).toNat:=by
 have h46:(46:UInt8).toNat=46:=rfl
 omega
theorem take_seg (S:ByteArray) (n m:Nat):((bl S).drop n).take m=seg S n (n+m):=by
 unfold seg
 rw [Nat.add_sub_cancel_left]
theorem drop_at (S:ByteArray) (n m:Nat):((bl S).drop n)[m]? =(bl S)[n+m]? :=by rw [List.getElem?_drop]
theorem prim_is {s:ByteArray} {b:Bool} (hb:T.isPrim (bl s)=b) (w:World) (hs:s.size<=maxLen):Calls Tryz.prog 87 #[.string s] w fun e w'=>e=.returned (.tuple #[.int .i64 (T.primNo (bl s)),.bool b])/\Below w.heap.size w w':=hb▸prim_calls s w hs
theorem wrap_add {n S k:Nat} (h:n<=S) (hS:S<=1048576) (hk:k<=4):wrap64 ((n:Int)+(k:Int))=(n:Int)+(k:Int):=by
 unfold wrap64
 omega
theorem u8_ne {c:UInt8} {k:Nat} {d:UInt8} (h:¬c=d) (hk:d.toNat=k:=by rfl):((c.toNat:Int)==(k:Int))=false:=by
 simp only [beq_eq_false_iff_ne,ne_eq]
 exact fun e=>h (UInt8.toNat_inj.1 (by omega))
theorem seg_one {S:ByteArray} {n:Nat} (h:n<S.size):seg S n (n+1)=[S[n]]:=by
 rw [seg_snoc (Nat.le_refl n) h]
 simp [seg]
set_option maxRecDepth 100000 in
set_option maxHeartbeats 4000000 in
theorem name_calls {B:Nat} {w:World} {cb mb:Nat} {S:ByteArray} {n:Nat} {ws:List W} (h:CS B w cb mb S n ws) (hn:n<S.size) (hlet:alnum S[n]=true):
 Calls Tryz.prog 81 #[.pointer (some ⟨cb,0,none⟩),.int .u8 (S[n].toNat:Int)] w (PC B cb mb S w (name S[n] ((bl S).drop n) n ws)):=by
 obtain ⟨R0,hR0⟩:∃ R0,name S[n] ((bl S).drop n) n ws=R0:=⟨_,rfl⟩
 rw [hR0]
 unfold name at hR0
 dsimp only at hR0
 have hsp:=span_at (p:=alnum) hn
 rw [hlet,if_pos rfl] at hsp
 have hspl:span alnum ((bl S).drop n)<=S.size-n:=by have:=span_le alnum ((bl S).drop n);rwa [List.length_drop,bl_len] at this
 obtain ⟨m,hm⟩:∃ m,m=span alnum ((bl S).drop n):=⟨_,rfl⟩
 have HM:=hid hm
 rw [<-hm] at hR0 hsp hspl
 rw [take_seg,drop_at] at hR0
 obtain ⟨e2,he2⟩:∃ e2,e2=n+m:=⟨_,rfl⟩
 rw [<-he2] at hR0
 have HE:=hid he2
 have HN:=hid (show n<e2/\e2<=S.size from by omega)
 have hsz:=h.sz
 have H:=hid h
 obtain ⟨c0,c1,c3,cf,clt,hcb⟩:=h.cells
 have HRun:=hid (fun W (hc:W.cell? ⟨cb,0,none⟩=some (.string S))=>run_calls S hsz n cb (Nat.le_of_lt hn) W hc)
 rw [<-hm,<-he2] at HRun
 have hs1:(S.extract n e2).size=m:=by rw [seg_size (by omega) (by omega)];omega
 have hn0:(0:Int)<=(n:Int):=Int.natCast_nonneg _
 have hn1:(n:Int)<=(e2:Int):=Int.ofNat_le.2 (by omega)
 have hn2:(e2:Int)<=(S.size:Int):=Int.ofNat_le.2 (by omega)
 have he0:(0:Int)<=(e2:Int):=Int.natCast_nonneg _
 have HSm:=hid (fun W=>small_calls S[n] W)
 clear hsp hspl hm he2 h
 by_cases hdot:∃ hq:e2<S.size,S[e2]=46
 ·obtain ⟨hq,hdot⟩:=hdot
  have hd1:(e2:Int)<(S.size:Int):=Int.ofNat_lt.2 hq
  have hd2:(S[e2]==46)=true:=by simp [hdot]
  have hd3:((S[e2].toNat:Int)==46)=true:=by rw [hdot];rfl
  have HS2:=hid (show seg S n (e2+1)=seg S n e2++[46] from by rw [seg_snoc (by have:=HN.out;omega) hq,hdot])
  rw [bl_get S e2 hq,hdot,if_pos rfl] at hR0
  have hcat:S.extract n e2++(⟨#[46]⟩:ByteArray)=bytes (seg S n e2++[46]):=by rw [<-bytes_app,seg_bytes];rfl
  have hcl:(bytes (seg S n e2++[46])).size<=maxLen:=by
   rw [show (bytes (seg S n e2++[46])).size=(seg S n e2++[46]).length from by simp [bytes,ByteArray.size],List.length_append,seg_len (by have:=HN.out;omega) (by have:=HN.out;omega)]
   exact Nat.le_trans (show (e2-n)+1<=1048577 from Nat.succ_le_succ (Nat.le_trans (Nat.sub_le _ _) (Nat.le_trans HN.out.2 hsz))) (by unfold maxLen;decide)
  have hw1:wrap64 ((e2:Int)+1)=(e2:Int)+1:=wrap_succ (by omega)
  have hm1:¬9223372036854775807<m+1:=not_big (Nat.le_trans (Nat.le_add_left m n) (Nat.le_trans (Nat.le_of_eq HE.out.symm) (Nat.le_trans HN.out.2 hsz)))
  have HQ:=hid hq
  clear hdot
  cases hp:T.isPrim (seg S n e2++[46]) with
  |true=>
   rw [if_pos hp] at hR0
   have HEq:=hid hR0
   have HPr:=hid (fun W=>prim_is (s:=S.extract n e2++(⟨#[46]⟩:ByteArray)) (b:=true) (by rw [hcat,bl_bytes];exact hp) W (by rw [hcat];exact hcl))
   clear hp hR0 hcl hcat
   go_enter Tryz.func81,Tryz.ntmps81
   go_upto_region 2 with (go_at_call 110;refine (HRun.out _ c0).mono ?_;rintro e w1 ⟨rfl,hb⟩;have H1:=hid (H.out.later hb);have HB1:=hid (show Below B w w1 from hb.mono H.out.hb);clear hb)
   clear c0 c1 c3 cf clt hcb
   obtain ⟨c0,c1,c3,cf,clt,hcb⟩:=H1.out.cells
   go_upto_region 3 with fail
   go_quiet (fail)
   generalize hWq:World.drewN w1 _=w2
   have hbq:Below w1.heap.size w1 w2:=hWq▸below_drewN (Below.refl _ _) _
   have H2:=hid (H1.out.later hbq)
   have HB2:=hid (show Below B w w2 from HB1.out.trans (hbq.mono H1.out.hb))
   clear hbq hWq c0 c1 c3 cf clt hcb
   obtain ⟨c0,c1,c3,cf,clt,hcb⟩:=H2.out.cells
   go_wp2_with (first
    |(go_at_call 87;refine (HPr.out _).mono ?_;rintro e w3 ⟨rfl,hb⟩;have H3:=hid (H2.out.later hb);have HB3:=hid (show Below B w w3 from HB2.out.trans (hb.mono H2.out.hb));obtain ⟨c0,c1,c3,cf,clt,hcb⟩:=H3.out.cells;clear hb)
    |(go_at_call 78;refine (put_at H3.out 4 (e2+1) (by have:=HN.out;omega) (by have:=HN.out;omega) (by first|rfl|omega)).mono ?_;rintro e w4 ⟨rfl,hcs,hb⟩;have HC4:=hid hcs;have HB4:=hid (show Below B w w4 from HB3.out.trans hb);clear hcs hb))
   all_goals
    refine bodyPost_ret (v:=.tuple #[.int .i64 0,.int .i64 0]) (by simp [results,Tryz.results81,go_sem]) rfl ?_
    rw [<-HEq.out]
    exact ⟨rfl,by have:=HC4.out;rwa [HS2.out] at this,HB4.out⟩
  |false=>
   rw [if_neg (by rw [hp];simp)] at hR0
   have HPr:=hid (fun W=>prim_is (s:=S.extract n e2++(⟨#[46]⟩:ByteArray)) (b:=false) (by rw [hcat,bl_bytes];exact hp) W (by rw [hcat];exact hcl))
   clear hp hcl hcat
   by_cases k0:seg S n e2=[105,102]
   ·have y0:((S.extract n e2).toList==[105,102])=true:=by rw [<-seg_bytes,text_beq];simp [k0]
    rw [if_pos (by rw [k0];decide)] at hR0
    have HEq:=hid hR0
    clear hR0 k0
    go_enter Tryz.func81,Tryz.ntmps81
    go_upto_region 2 with (go_at_call 110;refine (HRun.out _ c0).mono ?_;rintro e w1 ⟨rfl,hb⟩;have H1:=hid (H.out.later hb);have HB1:=hid (show Below B w w1 from hb.mono H.out.hb);clear hb)
    clear c0 c1 c3 cf clt hcb
    obtain ⟨c0,c1,c3,cf,clt,hcb⟩:=H1.out.cells
    go_upto_region 3 with fail
    go_quiet (fail)
    generalize hWq:World.drewN w1 _=w2
    have hbq:Below w1.heap.size w1 w2:=hWq▸below_drewN (Below.refl _ _) _
    have H2:=hid (H1.out.later hbq)
    have HB2:=hid (show Below B w w2 from HB1.out.trans (hbq.mono H1.out.hb))
    clear hbq hWq c0 c1 c3 cf clt hcb
    obtain ⟨c0,c1,c3,cf,clt,hcb⟩:=H2.out.cells
    go_wp2_with (first
     |(go_at_call 87;refine (HPr.out _).mono ?_;rintro e w3 ⟨rfl,hb⟩;have H3:=hid (H2.out.later hb);have HB3:=hid (show Below B w w3 from HB2.out.trans (hb.mono H2.out.hb));obtain ⟨c0,c1,c3,cf,clt,hcb⟩:=H3.out.cells;clear hb)
     |(go_at_call 78;refine (put_at H3.out 7 (e2+1) (by have:=HN.out;omega) (by have:=HN.out;omega) (by first|rfl|omega)).mono ?_;rintro e w4 ⟨rfl,hcs,hb⟩;have HC4:=hid hcs;have HB4:=hid (show Below B w w4 from HB3.out.trans hb);clear hcs hb))
    all_goals
     refine bodyPost_ret (v:=.tuple #[.int .i64 0,.int .i64 0]) (by simp [results,Tryz.results81,go_sem]) rfl ?_
     rw [<-HEq.out]
     exact ⟨rfl,by have:=HC4.out;rwa [HS2.out] at this,HB4.out⟩
   have y0:((S.extract n e2).toList==[105,102])=false:=by rw [<-seg_bytes,text_beq];simp [k0]
   by_cases k1:seg S n e2=[100,111]
   ·have y1:((S.extract n e2).toList==[100,111])=true:=by rw [<-seg_bytes,text_beq];simp [k1]
    rw [if_pos (by rw [k1];decide)] at hR0
    have HEq:=hid hR0
    clear hR0 k0 k1
    go_enter Tryz.func81,Tryz.ntmps81
    go_upto_region 2 with (go_at_call 110;refine (HRun.out _ c0).mono ?_;rintro e w1 ⟨rfl,hb⟩;have H1:=hid (H.out.later hb);have HB1:=hid (show Below B w w1 from hb.mono H.out.hb);clear hb)
    clear c0 c1 c3 cf clt hcb
    obtain ⟨c0,c1,c3,cf,clt,hcb⟩:=H1.out.cells
    go_upto_region 3 with fail
    go_quiet (fail)
    generalize hWq:World.drewN w1 _=w2
    have hbq:Below w1.heap.size w1 w2:=hWq▸below_drewN (Below.refl _ _) _
    have H2:=hid (H1.out.later hbq)
    have HB2:=hid (show Below B w w2 from HB1.out.trans (hbq.mono H1.out.hb))
    clear hbq hWq c0 c1 c3 cf clt hcb
    obtain ⟨c0,c1,c3,cf,clt,hcb⟩:=H2.out.cells
    go_wp2_with (first
     |(go_at_call 87;refine (HPr.out _).mono ?_;rintro e w3 ⟨rfl,hb⟩;have H3:=hid (H2.out.later hb);have HB3:=hid (show Below B w w3 from HB2.out.trans (hb.mono H2.out.hb));obtain ⟨c0,c1,c3,cf,clt,hcb⟩:=H3.out.cells;clear hb)
     |(go_at_call 78;refine (put_at H3.out 7 (e2+1) (by have:=HN.out;omega) (by have:=HN.out;omega) (by first|rfl|omega)).mono ?_;rintro e w4 ⟨rfl,hcs,hb⟩;have HC4:=hid hcs;have HB4:=hid (show Below B w w4 from HB3.out.trans hb);clear hcs hb))
    all_goals
     refine bodyPost_ret (v:=.tuple #[.int .i64 0,.int .i64 0]) (by simp [results,Tryz.results81,go_sem]) rfl ?_
     rw [<-HEq.out]
     exact ⟨rfl,by have:=HC4.out;rwa [HS2.out] at this,HB4.out⟩
   have y1:((S.extract n e2).toList==[100,111])=false:=by rw [<-seg_bytes,text_beq];simp [k1]
   by_cases k2:seg S n e2=[101,108,115,101]
   ·have y2:((S.extract n e2).toList==[101,108,115,101])=true:=by rw [<-seg_bytes,text_beq];simp [k2]
    rw [if_pos (by rw [k2];decide)] at hR0
    have HEq:=hid hR0
    clear hR0 k0 k1 k2
    go_enter Tryz.func81,Tryz.ntmps81
    go_upto_region 2 with (go_at_call 110;refine (HRun.out _ c0).mono ?_;rintro e w1 ⟨rfl,hb⟩;have H1:=hid (H.out.later hb);have HB1:=hid (show Below B w w1 from hb.mono H.out.hb);clear hb)
    clear c0 c1 c3 cf clt hcb
    obtain ⟨c0,c1,c3,cf,clt,hcb⟩:=H1.out.cells
    go_upto_region 3 with fail
    go_quiet (fail)
    generalize hWq:World.drewN w1 _=w2
    have hbq:Below w1.heap.size w1 w2:=hWq▸below_drewN (Below.refl _ _) _
    have H2:=hid (H1.out.later hbq)
    have HB2:=hid (show Below B w w2 from HB1.out.trans (hbq.mono H1.out.hb))
    clear hbq hWq c0 c1 c3 cf clt hcb
    obtain ⟨c0,c1,c3,cf,clt,hcb⟩:=H2.out.cells
    go_wp2_with (first
     |(go_at_call 87;refine (HPr.out _).mono ?_;rintro e w3 ⟨rfl,hb⟩;have H3:=hid (H2.out.later hb);have HB3:=hid (show Below B w w3 from HB2.out.trans (hb.mono H2.out.hb));obtain ⟨c0,c1,c3,cf,clt,hcb⟩:=H3.out.cells;clear hb)
     |(go_at_call 78;refine (put_at H3.out 7 (e2+1) (by have:=HN.out;omega) (by have:=HN.out;omega) (by first|rfl|omega)).mono ?_;rintro e w4 ⟨rfl,hcs,hb⟩;have HC4:=hid hcs;have HB4:=hid (show Below B w w4 from HB3.out.trans hb);clear hcs hb))
    all_goals
     refine bodyPost_ret (v:=.tuple #[.int .i64 0,.int .i64 0]) (by simp [results,Tryz.results81,go_sem]) rfl ?_
     rw [<-HEq.out]
     exact ⟨rfl,by have:=HC4.out;rwa [HS2.out] at this,HB4.out⟩
   have y2:((S.extract n e2).toList==[101,108,115,101])=false:=by rw [<-seg_bytes,text_beq];simp [k2]
   by_cases k3:seg S n e2=[101,110,100]
   ·have y3:((S.extract n e2).toList==[101,110,100])=true:=by rw [<-seg_bytes,text_beq];simp [k3]
    rw [if_pos (by rw [k3];decide)] at hR0
    have HEq:=hid hR0
    clear hR0 k0 k1 k2 k3
    go_enter Tryz.func81,Tryz.ntmps81
    go_upto_region 2 with (go_at_call 110;refine (HRun.out _ c0).mono ?_;rintro e w1 ⟨rfl,hb⟩;have H1:=hid (H.out.later hb);have HB1:=hid (show Below B w w1 from hb.mono H.out.hb);clear hb)
    clear c0 c1 c3 cf clt hcb
    obtain ⟨c0,c1,c3,cf,clt,hcb⟩:=H1.out.cells
    go_upto_region 3 with fail
    go_quiet (fail)
    generalize hWq:World.drewN w1 _=w2
    have hbq:Below w1.heap.size w1 w2:=hWq▸below_drewN (Below.refl _ _) _
    have H2:=hid (H1.out.later hbq)
    have HB2:=hid (show Below B w w2 from HB1.out.trans (hbq.mono H1.out.hb))
    clear hbq hWq c0 c1 c3 cf clt hcb
    obtain ⟨c0,c1,c3,cf,clt,hcb⟩:=H2.out.cells
    go_wp2_with (first
     |(go_at_call 87;refine (HPr.out _).mono ?_;rintro e w3 ⟨rfl,hb⟩;have H3:=hid (H2.out.later hb);have HB3:=hid (show Below B w w3 from HB2.out.trans (hb.mono H2.out.hb));obtain ⟨c0,c1,c3,cf,clt,hcb⟩:=H3.out.cells;clear hb)
     |(go_at_call 78;refine (put_at H3.out 7 (e2+1) (by have:=HN.out;omega) (by have:=HN.out;omega) (by first|rfl|omega)).mono ?_;rintro e w4 ⟨rfl,hcs,hb⟩;have HC4:=hid hcs;have HB4:=hid (show Below B w w4 from HB3.out.trans hb);clear hcs hb))
    all_goals
     refine bodyPost_ret (v:=.tuple #[.int .i64 0,.int .i64 0]) (by simp [results,Tryz.results81,go_sem]) rfl ?_
     rw [<-HEq.out]
     exact ⟨rfl,by have:=HC4.out;rwa [HS2.out] at this,HB4.out⟩
   have y3:((S.extract n e2).toList==[101,110,100])=false:=by rw [<-seg_bytes,text_beq];simp [k3]
   by_cases k4:seg S n e2=[119,104,105,108,101]
   ·have y4:((S.extract n e2).toList==[119,104,105,108,101])=true:=by rw [<-seg_bytes,text_beq];simp [k4]
    rw [if_pos (by rw [k4];decide)] at hR0
    have HEq:=hid hR0
    clear hR0 k0 k1 k2 k3 k4
    go_enter Tryz.func81,Tryz.ntmps81
    go_upto_region 2 with (go_at_call 110;refine (HRun.out _ c0).mono ?_;rintro e w1 ⟨rfl,hb⟩;have H1:=hid (H.out.later hb);have HB1:=hid (show Below B w w1 from hb.mono H.out.hb);clear hb)
    clear c0 c1 c3 cf clt hcb
    obtain ⟨c0,c1,c3,cf,clt,hcb⟩:=H1.out.cells
    go_upto_region 3 with fail
    go_quiet (fail)
    generalize hWq:World.drewN w1 _=w2
    have hbq:Below w1.heap.size w1 w2:=hWq▸below_drewN (Below.refl _ _) _
    have H2:=hid (H1.out.later hbq)
    have HB2:=hid (show Below B w w2 from HB1.out.trans (hbq.mono H1.out.hb))
    clear hbq hWq c0 c1 c3 cf clt hcb
    obtain ⟨c0,c1,c3,cf,clt,hcb⟩:=H2.out.cells
    go_wp2_with (first
     |(go_at_call 87;refine (HPr.out _).mono ?_;rintro e w3 ⟨rfl,hb⟩;have H3:=hid (H2.out.later hb);have HB3:=hid (show Below B w w3 from HB2.out.trans (hb.mono H2.out.hb));obtain ⟨c0,c1,c3,cf,clt,hcb⟩:=H3.out.cells;clear hb)
     |(go_at_call 78;refine (put_at H3.out 7 (e2+1) (by have:=HN.out;omega) (by have:=HN.out;omega) (by first|rfl|omega)).mono ?_;rintro e w4 ⟨rfl,hcs,hb⟩;have HC4:=hid hcs;have HB4:=hid (show Below B w w4 from HB3.out.trans hb);clear hcs hb))
    all_goals
     refine bodyPost_ret (v:=.tuple #[.int .i64 0,.int .i64 0]) (by simp [results,Tryz.results81,go_sem]) rfl ?_
     rw [<-HEq.out]
     exact ⟨rfl,by have:=HC4.out;rwa [HS2.out] at this,HB4.out⟩
   have y4:((S.extract n e2).toList==[119,104,105,108,101])=false:=by rw [<-seg_bytes,text_beq];simp [k4]
   by_cases k5:seg S n e2=[112,105,99,107]
   ·have y5:((S.extract n e2).toList==[112,105,99,107])=true:=by rw [<-seg_bytes,text_beq];simp [k5]
    rw [if_pos (by rw [k5];decide)] at hR0
    have HEq:=hid hR0
    clear hR0 k0 k1 k2 k3 k4 k5
    go_enter Tryz.func81,Tryz.ntmps81
    go_upto_region 2 with (go_at_call 110;refine (HRun.out _ c0).mono ?_;rintro e w1 ⟨rfl,hb⟩;have H1:=hid (H.out.later hb);have HB1:=hid (show Below B w w1 from hb.mono H.out.hb);clear hb)
    clear c0 c1 c3 cf clt hcb
    obtain ⟨c0,c1,c3,cf,clt,hcb⟩:=H1.out.cells
    go_upto_region 3 with fail
    go_quiet (fail)
    generalize hWq:World.drewN w1 _=w2
    have hbq:Below w1.heap.size w1 w2:=hWq▸below_drewN (Below.refl _ _) _
    have H2:=hid (H1.out.later hbq)
    have HB2:=hid (show Below B w w2 from HB1.out.trans (hbq.mono H1.out.hb))
    clear hbq hWq c0 c1 c3 cf clt hcb
    obtain ⟨c0,c1,c3,cf,clt,hcb⟩:=H2.out.cells
    go_wp2_with (first
     |(go_at_call 87;refine (HPr.out _).mono ?_;rintro e w3 ⟨rfl,hb⟩;have H3:=hid (H2.out.later hb);have HB3:=hid (show Below B w w3 from HB2.out.trans (hb.mono H2.out.hb));obtain ⟨c0,c1,c3,cf,clt,hcb⟩:=H3.out.cells;clear hb)
     |(go_at_call 78;refine (put_at H3.out 7 (e2+1) (by have:=HN.out;omega) (by have:=HN.out;omega) (by first|rfl|omega)).mono ?_;rintro e w4 ⟨rfl,hcs,hb⟩;have HC4:=hid hcs;have HB4:=hid (show Below B w w4 from HB3.out.trans hb);clear hcs hb))
    all_goals
     refine bodyPost_ret (v:=.tuple #[.int .i64 0,.int .i64 0]) (by simp [results,Tryz.results81,go_sem]) rfl ?_
     rw [<-HEq.out]
     exact ⟨rfl,by have:=HC4.out;rwa [HS2.out] at this,HB4.out⟩
   have y5:((S.extract n e2).toList==[112,105,99,107])=false:=by rw [<-seg_bytes,text_beq];simp [k5]
   by_cases k6:seg S n e2=[111,114]
   ·have y6:((S.extract n e2).toList==[111,114])=true:=by rw [<-seg_bytes,text_beq];simp [k6]
    rw [if_pos (by rw [k6];decide)] at hR0
    have HEq:=hid hR0
    clear hR0 k0 k1 k2 k3 k4 k5 k6
    go_enter Tryz.func81,Tryz.ntmps81
    go_upto_region 2 with (go_at_call 110;refine (HRun.out _ c0).mono ?_;rintro e w1 ⟨rfl,hb⟩;have H1:=hid (H.out.later hb);have HB1:=hid (show Below B w w1 from hb.mono H.out.hb);clear hb)
    clear c0 c1 c3 cf clt hcb
    obtain ⟨c0,c1,c3,cf,clt,hcb⟩:=H1.out.cells
    go_upto_region 3 with fail
    go_quiet (fail)
    generalize hWq:World.drewN w1 _=w2
    have hbq:Below w1.heap.size w1 w2:=hWq▸below_drewN (Below.refl _ _) _
    have H2:=hid (H1.out.later hbq)
    have HB2:=hid (show Below B w w2 from HB1.out.trans (hbq.mono H1.out.hb))
    clear hbq hWq c0 c1 c3 cf clt hcb
    obtain ⟨c0,c1,c3,cf,clt,hcb⟩:=H2.out.cells
    go_wp2_with (first
     |(go_at_call 87;refine (HPr.out _).mono ?_;rintro e w3 ⟨rfl,hb⟩;have H3:=hid (H2.out.later hb);have HB3:=hid (show Below B w w3 from HB2.out.trans (hb.mono H2.out.hb));obtain ⟨c0,c1,c3,cf,clt,hcb⟩:=H3.out.cells;clear hb)
     |(go_at_call 78;refine (put_at H3.out 7 (e2+1) (by have:=HN.out;omega) (by have:=HN.out;omega) (by first|rfl|omega)).mono ?_;rintro e w4 ⟨rfl,hcs,hb⟩;have HC4:=hid hcs;have HB4:=hid (show Below B w w4 from HB3.out.trans hb);clear hcs hb))
    all_goals
     refine bodyPost_ret (v:=.tuple #[.int .i64 0,.int .i64 0]) (by simp [results,Tryz.results81,go_sem]) rfl ?_
     rw [<-HEq.out]
     exact ⟨rfl,by have:=HC4.out;rwa [HS2.out] at this,HB4.out⟩
   have y6:((S.extract n e2).toList==[111,114])=false:=by rw [<-seg_bytes,text_beq];simp [k6]
   rw [if_neg (by unfold keywords;simp only [List.mem_cons,List.not_mem_nil,or_false,not_or];exact ⟨k0,k1,k2,k3,k4,k5,k6⟩)] at hR0
   have HEq:=hid hR0
   clear hR0 k0 k1 k2 k3 k4 k5 k6
   go_enter Tryz.func81,Tryz.ntmps81
   go_upto_region 2 with (go_at_call 110;refine (HRun.out _ c0).mono ?_;rintro e w1 ⟨rfl,hb⟩;have H1:=hid (H.out.later hb);have HB1:=hid (show Below B w w1 from hb.mono H.out.hb);clear hb)
   clear c0 c1 c3 cf clt hcb
   obtain ⟨c0,c1,c3,cf,clt,hcb⟩:=H1.out.cells
   go_upto_region 3 with fail
   go_quiet (fail)
   generalize hWq:World.drewN w1 _=w2
   have hbq:Below w1.heap.size w1 w2:=hWq▸below_drewN (Below.refl _ _) _
   have H2:=hid (H1.out.later hbq)
   have HB2:=hid (show Below B w w2 from HB1.out.trans (hbq.mono H1.out.hb))
   clear hbq hWq c0 c1 c3 cf clt hcb
   obtain ⟨c0,c1,c3,cf,clt,hcb⟩:=H2.out.cells
   go_wp2_with (go_at_call 87;refine (HPr.out _).mono ?_;rintro e w3 ⟨rfl,hb⟩;have H3:=hid (H2.out.later hb);have HB3:=hid (show Below B w w3 from HB2.out.trans (hb.mono H2.out.hb));obtain ⟨c0,c1,c3,cf,clt,hcb⟩:=H3.out.cells;clear hb)
   refine bodyPost_ret (v:=.tuple #[.int .i64 (n:Int),.int .i64 31]) (by simp [results,Tryz.results81,go_sem]) rfl ?_
   rw [<-HEq.out]
   exact ⟨rfl,HB3.out⟩
 ·have hno:¬(bl S)[e2]? =some 46:=fun e=>hdot (by
   have hq:=(List.getElem?_eq_some_iff.1 e).1
   rw [bl_len] at hq
   rw [bl_get S e2 hq] at e
   exact ⟨hq,Option.some.inj e⟩)
  rw [if_neg hno] at hR0
  have HDot:=hid hdot
  clear hno hdot
  by_cases h32:32<m
  ·rw [if_pos h32] at hR0
   have HEq:=hid hR0
   have d32:(32:Int)<(m:Int):=Int.ofNat_lt.2 h32
   clear hR0
   by_cases hq:e2<S.size
   ·have hd1:(e2:Int)<(S.size:Int):=Int.ofNat_lt.2 hq
    have hd2:(S[e2]==46)=false:=by have:=HDot.out;simp;exact fun e=>this ⟨hq,e⟩
    have hd3:((S[e2].toNat:Int)==46)=false:=by
     have:=HDot.out
     simp only [beq_eq_false_iff_ne,ne_eq]
     exact fun e=>this ⟨hq,UInt8.toNat_inj.1 (show S[e2].toNat=(46:UInt8).toNat from u8_46 e)⟩
    go_enter Tryz.func81,Tryz.ntmps81
    go_upto_region 2 with (go_at_call 110;refine (HRun.out _ c0).mono ?_;rintro e w1 ⟨rfl,hb⟩;have H1:=hid (H.out.later hb);have HB1:=hid (show Below B w w1 from hb.mono H.out.hb);clear hb)
    clear c0 c1 c3 cf clt hcb
    obtain ⟨c0,c1,c3,cf,clt,hcb⟩:=H1.out.cells
    go_upto_region 3 with fail
    go_quiet (fail)
    generalize hWq:World.drewN w1 _=w2
    have hbq:Below w1.heap.size w1 w2:=hWq▸below_drewN (Below.refl _ _) _
    have H2:=hid (H1.out.later hbq)
    have HB2:=hid (show Below B w w2 from HB1.out.trans (hbq.mono H1.out.hb))
    clear hbq hWq c0 c1 c3 cf clt hcb
    obtain ⟨c0,c1,c3,cf,clt,hcb⟩:=H2.out.cells
    go_wp2_with fail
    refine bodyPost_ret (v:=.tuple #[.int .i64 (n:Int),.int .i64 31]) (by simp [results,Tryz.results81,go_sem]) rfl ?_
    rw [<-HEq.out]
    exact ⟨rfl,HB2.out⟩
   ·have hd1:¬(e2:Int)<(S.size:Int):=fun h=>hq (Int.ofNat_lt.1 h)
    go_enter Tryz.func81,Tryz.ntmps81
    go_upto_region 2 with (go_at_call 110;refine (HRun.out _ c0).mono ?_;rintro e w1 ⟨rfl,hb⟩;have H1:=hid (H.out.later hb);have HB1:=hid (show Below B w w1 from hb.mono H.out.hb);clear hb)
    clear c0 c1 c3 cf clt hcb
    obtain ⟨c0,c1,c3,cf,clt,hcb⟩:=H1.out.cells
    go_upto_region 3 with fail
    go_quiet (fail)
    generalize hWq:World.drewN w1 _=w2
    have hbq:Below w1.heap.size w1 w2:=hWq▸below_drewN (Below.refl _ _) _
    have H2:=hid (H1.out.later hbq)
    have HB2:=hid (show Below B w w2 from HB1.out.trans (hbq.mono H1.out.hb))
    clear hbq hWq c0 c1 c3 cf clt hcb
    obtain ⟨c0,c1,c3,cf,clt,hcb⟩:=H2.out.cells
    go_wp2_with fail
    refine bodyPost_ret (v:=.tuple #[.int .i64 (n:Int),.int .i64 31]) (by simp [results,Tryz.results81,go_sem]) rfl ?_
    rw [<-HEq.out]
    exact ⟨rfl,HB2.out⟩
  ·rw [if_neg h32] at hR0
   have d32:¬(32:Int)<(m:Int):=fun h=>h32 (Int.ofNat_lt.1 h)
   cases hsm:small S[n] with
   |true=>
    rw [if_pos hsm] at hR0
    have HEq:=hid hR0
    have HSm1:=hid (fun W=>small_is hsm W)
    clear hR0 hsm
    by_cases hq:e2<S.size
    ·have hd1:(e2:Int)<(S.size:Int):=Int.ofNat_lt.2 hq
     have hd2:(S[e2]==46)=false:=by have:=HDot.out;simp;exact fun e=>this ⟨hq,e⟩
     have hd3:((S[e2].toNat:Int)==46)=false:=by
      have:=HDot.out
      simp only [beq_eq_false_iff_ne,ne_eq]
      exact fun e=>this ⟨hq,UInt8.toNat_inj.1 (show S[e2].toNat=(46:UInt8).toNat from u8_46 e)⟩
     go_enter Tryz.func81,Tryz.ntmps81
     go_upto_region 2 with (go_at_call 110;refine (HRun.out _ c0).mono ?_;rintro e w1 ⟨rfl,hb⟩;have H1:=hid (H.out.later hb);have HB1:=hid (show Below B w w1 from hb.mono H.out.hb);clear hb)
     clear c0 c1 c3 cf clt hcb
     obtain ⟨c0,c1,c3,cf,clt,hcb⟩:=H1.out.cells
     go_upto_region 3 with fail
     go_quiet (fail)
     generalize hWq:World.drewN w1 _=w2
     have hbq:Below w1.heap.size w1 w2:=hWq▸below_drewN (Below.refl _ _) _
     have H2:=hid (H1.out.later hbq)
     have HB2:=hid (show Below B w w2 from HB1.out.trans (hbq.mono H1.out.hb))
     clear hbq hWq c0 c1 c3 cf clt hcb
     obtain ⟨c0,c1,c3,cf,clt,hcb⟩:=H2.out.cells
     go_wp2_with (first
      |(go_at_call 76;refine (HSm1.out _).mono ?_;rintro e w3 ⟨rfl,hb⟩;have H3:=hid (H2.out.later hb);have HB3:=hid (show Below B w w3 from HB2.out.trans (hb.mono H2.out.hb));clear hb)
      |(go_at_call 78;refine (put_at H3.out 2 (e2) (by have:=HN.out;omega) (by have:=HN.out;omega) (by first|rfl|omega)).mono ?_;rintro e w4 ⟨rfl,hcs,hb⟩;have HC4:=hid hcs;have HB4:=hid (show Below B w w4 from HB3.out.trans hb);clear hcs hb))
     all_goals
      refine bodyPost_ret (v:=.tuple #[.int .i64 0,.int .i64 0]) (by simp [results,Tryz.results81,go_sem]) rfl ?_
      rw [<-HEq.out]
      exact ⟨rfl,HC4.out,HB4.out⟩
    ·have hd1:¬(e2:Int)<(S.size:Int):=fun h=>hq (Int.ofNat_lt.1 h)
     go_enter Tryz.func81,Tryz.ntmps81
     go_upto_region 2 with (go_at_call 110;refine (HRun.out _ c0).mono ?_;rintro e w1 ⟨rfl,hb⟩;have H1:=hid (H.out.later hb);have HB1:=hid (show Below B w w1 from hb.mono H.out.hb);clear hb)
     clear c0 c1 c3 cf clt hcb
     obtain ⟨c0,c1,c3,cf,clt,hcb⟩:=H1.out.cells
     go_upto_region 3 with fail
     go_quiet (fail)
     generalize hWq:World.drewN w1 _=w2
     have hbq:Below w1.heap.size w1 w2:=hWq▸below_drewN (Below.refl _ _) _
     have H2:=hid (H1.out.later hbq)
     have HB2:=hid (show Below B w w2 from HB1.out.trans (hbq.mono H1.out.hb))
     clear hbq hWq c0 c1 c3 cf clt hcb
     obtain ⟨c0,c1,c3,cf,clt,hcb⟩:=H2.out.cells
     go_wp2_with (first
      |(go_at_call 76;refine (HSm1.out _).mono ?_;rintro e w3 ⟨rfl,hb⟩;have H3:=hid (H2.out.later hb);have HB3:=hid (show Below B w w3 from HB2.out.trans (hb.mono H2.out.hb));clear hb)
      |(go_at_call 78;refine (put_at H3.out 2 (e2) (by have:=HN.out;omega) (by have:=HN.out;omega) (by first|rfl|omega)).mono ?_;rintro e w4 ⟨rfl,hcs,hb⟩;have HC4:=hid hcs;have HB4:=hid (show Below B w w4 from HB3.out.trans hb);clear hcs hb))
     all_goals
      refine bodyPost_ret (v:=.tuple #[.int .i64 0,.int .i64 0]) (by simp [results,Tryz.results81,go_sem]) rfl ?_
      rw [<-HEq.out]
      exact ⟨rfl,HC4.out,HB4.out⟩
   |false=>
    rw [if_neg (by rw [hsm];simp)] at hR0
    have HEq:=hid hR0
    have HSm1:=hid (fun W=>small_is hsm W)
    clear hR0 hsm
    by_cases hq:e2<S.size
    ·have hd1:(e2:Int)<(S.size:Int):=Int.ofNat_lt.2 hq
     have hd2:(S[e2]==46)=false:=by have:=HDot.out;simp;exact fun e=>this ⟨hq,e⟩
     have hd3:((S[e2].toNat:Int)==46)=false:=by
      have:=HDot.out
      simp only [beq_eq_false_iff_ne,ne_eq]
      exact fun e=>this ⟨hq,UInt8.toNat_inj.1 (show S[e2].toNat=(46:UInt8).toNat from u8_46 e)⟩
     go_enter Tryz.func81,Tryz.ntmps81
     go_upto_region 2 with (go_at_call 110;refine (HRun.out _ c0).mono ?_;rintro e w1 ⟨rfl,hb⟩;have H1:=hid (H.out.later hb);have HB1:=hid (show Below B w w1 from hb.mono H.out.hb);clear hb)
     clear c0 c1 c3 cf clt hcb
     obtain ⟨c0,c1,c3,cf,clt,hcb⟩:=H1.out.cells
     go_upto_region 3 with fail
     go_quiet (fail)
     generalize hWq:World.drewN w1 _=w2
     have hbq:Below w1.heap.size w1 w2:=hWq▸below_drewN (Below.refl _ _) _
     have H2:=hid (H1.out.later hbq)
     have HB2:=hid (show Below B w w2 from HB1.out.trans (hbq.mono H1.out.hb))
     clear hbq hWq c0 c1 c3 cf clt hcb
     obtain ⟨c0,c1,c3,cf,clt,hcb⟩:=H2.out.cells
     go_wp2_with (first
      |(go_at_call 76;refine (HSm1.out _).mono ?_;rintro e w3 ⟨rfl,hb⟩;have H3:=hid (H2.out.later hb);have HB3:=hid (show Below B w w3 from HB2.out.trans (hb.mono H2.out.hb));clear hb)
      |(go_at_call 78;refine (put_at H3.out 3 (e2) (by have:=HN.out;omega) (by have:=HN.out;omega) (by first|rfl|omega)).mono ?_;rintro e w4 ⟨rfl,hcs,hb⟩;have HC4:=hid hcs;have HB4:=hid (show Below B w w4 from HB3.out.trans hb);clear hcs hb))
     all_goals
      refine bodyPost_ret (v:=.tuple #[.int .i64 0,.int .i64 0]) (by simp [results,Tryz.results81,go_sem]) rfl ?_
      rw [<-HEq.out]
      exact ⟨rfl,HC4.out,HB4.out⟩
    ·have hd1:¬(e2:Int)<(S.size:Int):=fun h=>hq (Int.ofNat_lt.1 h)
     go_enter Tryz.func81,Tryz.ntmps81
     go_upto_region 2 with (go_at_call 110;refine (HRun.out _ c0).mono ?_;rintro e w1 ⟨rfl,hb⟩;have H1:=hid (H.out.later hb);have HB1:=hid (show Below B w w1 from hb.mono H.out.hb);clear hb)
     clear c0 c1 c3 cf clt hcb
     obtain ⟨c0,c1,c3,cf,clt,hcb⟩:=H1.out.cells
     go_upto_region 3 with fail
     go_quiet (fail)
     generalize hWq:World.drewN w1 _=w2
     have hbq:Below w1.heap.size w1 w2:=hWq▸below_drewN (Below.refl _ _) _
     have H2:=hid (H1.out.later hbq)
     have HB2:=hid (show Below B w w2 from HB1.out.trans (hbq.mono H1.out.hb))
     clear hbq hWq c0 c1 c3 cf clt hcb
     obtain ⟨c0,c1,c3,cf,clt,hcb⟩:=H2.out.cells
     go_wp2_with (first
      |(go_at_call 76;refine (HSm1.out _).mono ?_;rintro e w3 ⟨rfl,hb⟩;have H3:=hid (H2.out.later hb);have HB3:=hid (show Below B w w3 from HB2.out.trans (hb.mono H2.out.hb));clear hb)
      |(go_at_call 78;refine (put_at H3.out 3 (e2) (by have:=HN.out;omega) (by have:=HN.out;omega) (by first|rfl|omega)).mono ?_;rintro e w4 ⟨rfl,hcs,hb⟩;have HC4:=hid hcs;have HB4:=hid (show Below B w w4 from HB3.out.trans hb);clear hcs hb))
     all_goals
      refine bodyPost_ret (v:=.tuple #[.int .i64 0,.int .i64 0]) (by simp [results,Tryz.results81,go_sem]) rfl ?_
      rw [<-HEq.out]
      exact ⟨rfl,HC4.out,HB4.out⟩
end Pz
end Go.Proofs.YtpfkhdlnjefikaaGreatDoor
