/- Package word. -/
import Derived.Test.YtimcmghhbdfjfaaGreatDoorQPyEA
import Derived.Deep.CutBlock
set_option linter.unusedVariables false
set_option linter.unusedSimpArgs false
set_option maxRecDepth 100000
set_option maxHeartbeats 4000000
namespace Go.Proofs.YtimcmghhbdfjfaaGreatDoor
open Go.RowKit Go.WideMaps Go.Maps
namespace Pz
def mkL:List (List UInt8):=[[123,123,41,109],[123,123,41,100],[125,125]]
theorem CS.map {B:Nat} {w:World} {cb mb:Nat} {S:ByteArray} {n:Nat} {ws:List W} (h:CS B w cb mb S n ws):w.ownsMap Tryz.prog 9 Hv mb 21 (putS (.map []) spM):=by
 obtain ⟨wv,last,rv,vs,k,h1,-⟩:=h.ex;exact h1.map
theorem tail_bytes (S:ByteArray) (n:Nat):bytes ((bl S).drop n)=S.extract n S.size:=by
 rw [<-bytes_extract S n S.size,List.take_of_length_le (by rw [List.length_drop,bl_len];exact qa _)]
theorem prefix_tail (S:ByteArray) (n:Nat) (p:List UInt8) (w:World):Calls Tryz.prog 54 #[.string (S.extract n S.size),.string (bytes p)] w fun e w'=>e=.returned (.bool (starts p ((bl S).drop n)))/\w'=w:=by
 rw [<-tail_bytes];exact prefix_calls _ p w
theorem starts_seg {S:ByteArray} {n:Nat} {p:List UInt8} (h:starts p ((bl S).drop n)=true):n+p.length<=S.size\/p=[]:=by
 have:=starts_len h;rw [List.length_drop,bl_len] at this;rcases p with _|⟨c,p⟩
 ·exact .inr rfl
 ·exact .inl (by simp at this ⊢;omega)
theorem starts_is {S:ByteArray} {n:Nat} {p:List UInt8} (h:starts p ((bl S).drop n)=true):seg S n (n+p.length)=p:=by
 have h:((bl S).drop n).take p.length=p:=by simpa [starts] using h
 rw [<-take_seg,h]
theorem prefix_is {S:ByteArray} {n:Nat} {p:List UInt8} {b:Bool} (h:starts p ((bl S).drop n)=b) (w:World):Calls Tryz.prog 54 #[.string (S.extract n S.size),.string (bytes p)] w fun e w'=>e=.returned (.bool b)/\w'=w:=h▸prefix_tail S n p w
theorem mkL_len:∀ (j:Nat) (p:List UInt8),mkL[j]? =some p->1<=p.length/\p.length<=4:=by
 intro j p h;have hj:j<3:=(qn.1 h).1
 match j,hj,h with
 |0,_,h=>cases h;decide
 |1,_,h=>cases h;decide
 |2,_,h=>cases h;decide
def mk58 (c:UInt8):Bool:=c==46||c==58
theorem mark_len (S:ByteArray) (n:Nat):n+1+span mk58 ((bl S).drop (n+1))=n+markLen ((bl S).drop n):=by
 unfold markLen;rw [List.drop_drop]
 show n+1+span (fun c=>c==46||c==58) _=_
 omega
def markR (b:UInt8) (S:ByteArray) (n:Nat) (ws:List W):R (Nat × List W):=
 if b=40\/b=41\/b=59 then .ok (n+1,ws++[⟨7,[b],n⟩])
 else if b.toNat<33\/126<b.toNat\/starts [123,123] ((bl S).drop n)=true then .bad 31 n
 else if kindText (((bl S).drop n).take (markLen ((bl S).drop n)))=0 then .bad 31 n else .ok (n+markLen ((bl S).drop n),ws++[⟨kindText (((bl S).drop n).take (markLen ((bl S).drop n))),((bl S).drop n).take (markLen ((bl S).drop n)),n⟩])
theorem mark_cases (b:UInt8) (S:ByteArray) (n:Nat) (ws:List W):(∀ (K:Nat) (p:List UInt8),mkL[K]? =some p->(∀ (q:Nat) (p':List UInt8),q<K->mkL[q]? =some p'->starts p' ((bl S).drop n)=false)->starts p ((bl S).drop n)=true->mark b ((bl S).drop n) n ws=.ok (n+p.length,ws++[⟨7,p,n⟩]))/\((∀ (q:Nat) (p':List UInt8),q<3->mkL[q]? =some p'->starts p' ((bl S).drop n)=false)->mark b ((bl S).drop n) n ws=markR b S n ws):=by
 refine ⟨fun K p hp hq hs=>?_,fun hq=>?_⟩
 ·have hK:K<3:=(qn.1 hp).1
  unfold mark
  match K,hK,hp,hq with
  |0,_,hp,hq=>cases hp;rw [if_pos hs];rfl
  |1,_,hp,hq=>
   cases hp
   rw [if_neg (by rw [hq 0 _ (by decide) rfl];simp),if_pos hs];rfl
  |2,_,hp,hq=>
   cases hp
   rw [if_neg (by rw [hq 0 _ (by decide) rfl];simp),if_neg (by rw [hq 1 _ (by decide) rfl];simp),if_pos hs];rfl
 ·unfold mark markR
  rw [if_neg (by rw [hq 0 _ (by decide) rfl];simp),if_neg (by rw [hq 1 _ (by decide) rfl];simp),if_neg (by rw [hq 2 _ (by decide) rfl];simp)]
theorem mark_calls {B:Nat} {w:World} {cb mb:Nat} {S:ByteArray} {n:Nat} {ws:List W} (h:CS B w cb mb S n ws) (hn:n<S.size):
 Calls Tryz.prog 87 #[.pointer (some ⟨cb,0,none⟩),.int .u8 (S[n].toNat:Int)] w (PC B cb mb S w (mark S[n] ((bl S).drop n) n ws)):=by
 have HMk:=hid (mark_cases S[n] S n ws);obtain ⟨R0,hR0⟩:∃ R0,mark S[n] ((bl S).drop n) n ws=R0:=⟨_,rfl⟩;rw [hR0] at HMk ⊢;clear hR0;have hsz:=h.sz;have H:=hid h;have hn0:(0:Int)<=(n:Int):=qj _;have hn1:(n:Int)<(S.size:Int):=Int.ofNat_lt.2 hn;have hn2:(n:Int)<=(S.size:Int):=Int.ofNat_le.2 (Nat.le_of_lt hn);have HPf:=hid (fun p W=>prefix_tail S n p W);have HSz:=hid (And.intro hn hsz);clear h;go_enter Tryz.func87,Tryz.ntmps87
 go_upto_region 2 with fail
 generalize hW0:World.alloc w _=w0;have hl0:∀ (j:Nat) (p:List UInt8),mkL[j]? =some p->w0.cell? ⟨w.heap.size,j,none⟩=some (.string (bytes p)):=fun j p hp=>by
  rw [<-hW0,World.cell?_alloc_at _ _ _ _ rfl];have hj:j<3:=(qn.1 hp).1
  match j,hj,hp with
  |0,_,hp=>cases hp;rfl
  |1,_,hp=>cases hp;rfl
  |2,_,hp=>cases hp;rfl
 have HL0:=hid hl0;have hb0:Below w.heap.size w w0:=hW0▸(qb _ _).alloc (qa _) _;have HC0:=hid (H.later hb0);have HB0:=hid (show Below B w w0 from hb0.mono H.hb);have HG0:=hid (show w.heap.size<w0.heap.size from by rw [<-hW0];simp);clear hl0 hb0 hW0;go_wp2_with fail
 go_loopw [15] (fun i wr=>∃ K:Nat,K<=3/\i=.int .i64 K/\Below w0.heap.size w0 wr/\Hid (∀ (q:Nat) (p':List UInt8),q<K->mkL[q]? =some p'->starts p' ((bl S).drop n)=false)) (fun i _=>3-(intOf i).toNat)
 case atStart=>exact ⟨0,by omega,rfl,qb _ _,hid (fun q p' h=>absurd h (Nat.not_lt_zero q))⟩
 case round=>
  obtain ⟨wl,hwl⟩:∃ wl,wl=wr:=⟨_,rfl⟩;subst hwl;obtain ⟨K,hK,rfl,hb,hno⟩:=hrel;have HNo:=hno;have HCl:=hid (HC0.later hb);have HBl:=hid (show Below B w wl from HB0.trans (hb.mono HC0.hb));have HB0l:=hid hb;obtain ⟨c0,c1,c3,cf,clt,hcb⟩:=HCl.cells;have k0:(0:Int)<=(K:Int):=qj _;clear hno;by_cases hlt:K<3
  ·obtain ⟨p,hp⟩:∃ p,mkL[K]? =some p:=⟨_,List.getElem?_eq_getElem (show K<mkL.length from hlt)⟩
   have hc:wl.cell? ⟨w.heap.size,K,none⟩=some (.string (bytes p)):=(cell_of_heap (hb.block _ HG0.out)).trans (HL0.out K p hp);have hpl:=mkL_len K p hp;have hps:(bytes p).size=p.length:=by simp [bytes,ByteArray.size]
   have HP:=hid hp;have HPl:=hid hpl;have k1:(K:Int)<3:=by omega
   have hw:wrap64 ((K:Int)+1)=(K:Int)+1:=by unfold wrap64;omega
   have HKl:=hid (show K+1<=3 from hlt);clear hp hb;cases hst:starts p ((bl S).drop n) with
   |true=>
    have HEq:=hid (HMk.out.1 K p HP.out HNo.out hst);have HSt:=hid (And.intro (starts_is hst) ((starts_seg hst).resolve_right (fun e=>by rw [e] at hpl;exact absurd hpl.1 (by decide))));have HPf1:=hid (fun W=>prefix_is hst W);have hwp:wrap64 ((n:Int)+(p.length:Int))=(n:Int)+(p.length:Int):=wrap_add (Nat.le_of_lt HSz.out.1) HSz.out.2 HPl.out.2;clear hst hpl;go_upto_region 5 with fail
    go_quiet ((go_at_call 54;exact Calls.quiet_of_same (HPf1.out _)));generalize hWq:World.drewN wl _=w2;have hbq:Below wl.heap.size wl w2:=hWq▸below_drewN (qb _ _) _;have HC2:=hid (HCl.later hbq);have HB2:=hid (show Below B w w2 from HBl.trans (hbq.mono HCl.hb));have HBq:=hid hbq;clear hbq hWq c0 c1 c3 cf clt hcb;obtain ⟨c0,c1,c3,cf,clt,hcb⟩:=HC2.cells;go_wp2_with (go_at_call 83;refine (put_at HC2.out (7) (n+p.length) (by have:=HPl.out.1;omega) (HSt.out.2) (by first|rfl|omega)).mono ?_;rintro e w9 ⟨rfl,hcs,hb⟩;have HC9:=hid hcs;have HB9:=hid (show Below B w w9 from HB2.trans hb);clear hcs hb)
    all_goals
     refine bodyPost_ret (v:=.tuple #[.int .i64 0,.int .i64 0]) (by simp [results,Tryz.results87,go_sem]) rfl ?_;rw [HEq.out];exact ⟨rfl,by have:=HC9.out;rwa [HSt.out.1] at this,HB9.out⟩
   |false=>
    have HPf1:=hid (fun W=>prefix_is hst W);have HNx:=hid (show ∀ (q:Nat) (p':List UInt8),q<K+1->mkL[q]? =some p'->starts p' ((bl S).drop n)=false from fun q p' hq hp'=>by
     rcases Nat.lt_or_ge q K with h|h
     ·exact HNo.out q p' h hp'
     ·have:q=K:=Nat.le_antisymm (Nat.lt_succ_iff.1 hq) h
      subst this;rw [HP.out] at hp';cases hp'
      exact hst)
    clear hst hpl;go_upto_region 5 with fail
    go_quiet ((go_at_call 54;exact Calls.quiet_of_same (HPf1.out _)));generalize hWq:World.drewN wl _=w2;have hbq:Below wl.heap.size wl w2:=hWq▸below_drewN (qb _ _) _;have HC2:=hid (HCl.later hbq);have HB2:=hid (show Below B w w2 from HBl.trans (hbq.mono HCl.hb));have HBq:=hid hbq;clear hbq hWq c0 c1 c3 cf clt hcb;obtain ⟨c0,c1,c3,cf,clt,hcb⟩:=HC2.cells
    (try go_wp2_with fail)
    go_roundw
    case rel=>exact ⟨K+1,HKl.out,by go_num,HB0l.trans (HBq.mono HB0l.size),HNx⟩
    case measure=>exact sp_meas (by first|exact Int.lt_succ _|(rw [hw];exact Int.lt_succ _)) k0 k1
  ·obtain rfl:K=3:=by omega
   have HR:=hid (HMk.out.2 HNo.out);clear hK hlt k0 hb;have hRm:=HR.out;unfold markR at hRm;have hw1:wrap64 ((n:Int)+1)=(n:Int)+1:=wrap_succ (qi (Nat.le_of_lt HSz.out.1) HSz.out.2);by_cases b40:S[n]=40
   ·have s40:((S[n].toNat:Int)==40)=true:=by rw [b40];rfl
    have HEq:=hid (show R0=.ok (n+1,ws++[⟨7,[S[n]],n⟩]) from by rw [hRm,if_pos (.inl b40)]);clear hRm b40;go_wp2_with (go_at_call 83;refine (put_at HCl.out (7) (n+1) (Nat.lt_succ_self n) (hn) (by first|rfl|omega)).mono ?_;rintro e w9 ⟨rfl,hcs,hb⟩;have HC9:=hid hcs;have HB9:=hid (show Below B w w9 from HBl.trans hb);clear hcs hb)
    all_goals
     refine bodyPost_ret (v:=.tuple #[.int .i64 0,.int .i64 0]) (by simp [results,Tryz.results87,go_sem]) rfl ?_;rw [HEq.out];exact ⟨rfl,by have:=HC9.out;rwa [seg_one hn] at this,HB9.out⟩
   have s40:((S[n].toNat:Int)==40)=false:=u8_ne b40;by_cases b41:S[n]=41
   ·have s41:((S[n].toNat:Int)==41)=true:=by rw [b41];rfl
    have HEq:=hid (show R0=.ok (n+1,ws++[⟨7,[S[n]],n⟩]) from by rw [hRm,if_pos (.inr (.inl b41))]);clear hRm b40 b41;go_wp2_with (go_at_call 83;refine (put_at HCl.out (7) (n+1) (Nat.lt_succ_self n) (hn) (by first|rfl|omega)).mono ?_;rintro e w9 ⟨rfl,hcs,hb⟩;have HC9:=hid hcs;have HB9:=hid (show Below B w w9 from HBl.trans hb);clear hcs hb)
    all_goals
     refine bodyPost_ret (v:=.tuple #[.int .i64 0,.int .i64 0]) (by simp [results,Tryz.results87,go_sem]) rfl ?_;rw [HEq.out];exact ⟨rfl,by have:=HC9.out;rwa [seg_one hn] at this,HB9.out⟩
   have s41:((S[n].toNat:Int)==41)=false:=u8_ne b41;by_cases b59:S[n]=59
   ·have s59:((S[n].toNat:Int)==59)=true:=by rw [b59];rfl
    have HEq:=hid (show R0=.ok (n+1,ws++[⟨7,[S[n]],n⟩]) from by rw [hRm,if_pos (.inr (.inr b59))]);clear hRm b40 b41 b59;go_wp2_with (go_at_call 83;refine (put_at HCl.out (7) (n+1) (Nat.lt_succ_self n) (hn) (by first|rfl|omega)).mono ?_;rintro e w9 ⟨rfl,hcs,hb⟩;have HC9:=hid hcs;have HB9:=hid (show Below B w w9 from HBl.trans hb);clear hcs hb)
    all_goals
     refine bodyPost_ret (v:=.tuple #[.int .i64 0,.int .i64 0]) (by simp [results,Tryz.results87,go_sem]) rfl ?_;rw [HEq.out];exact ⟨rfl,by have:=HC9.out;rwa [seg_one hn] at this,HB9.out⟩
   have s59:((S[n].toNat:Int)==59)=false:=u8_ne b59;rw [if_neg (fun h=>h.elim b40 (fun h=>h.elim b41 b59))] at hRm;clear b40 b41 b59;by_cases d33:(S[n].toNat:Int)<33
   ·have HEq:=hid (show R0=.bad 31 n from by rw [hRm,if_pos (.inl (by omega))])
    have g33:decide ((S[n].toNat:Int)<33)=true:=decide_eq_true d33;clear hRm d33;go_upto_region 15 with fail
    go_quiet (fail);generalize hWq:World.drewN wl _=w2;have hbq:Below wl.heap.size wl w2:=hWq▸below_drewN (qb _ _) _;have HC2:=hid (HCl.later hbq);have HB2:=hid (show Below B w w2 from HBl.trans (hbq.mono HCl.hb));clear hbq hWq c0 c1 c3 cf clt hcb;obtain ⟨c0,c1,c3,cf,clt,hcb⟩:=HC2.cells;go_wp2_with fail
    refine bodyPost_ret (v:=.tuple #[.int .i64 (n:Int),.int .i64 31]) (by simp [results,Tryz.results87,go_sem]) rfl ?_;rw [HEq.out];exact ⟨rfl,HB2.out⟩
   have g33:decide ((S[n].toNat:Int)<33)=false:=decide_eq_false d33;by_cases d126:(126:Int)<(S[n].toNat:Int)
   ·have HEq:=hid (show R0=.bad 31 n from by rw [hRm,if_pos (.inr (.inl (by omega)))])
    have g126:decide ((126:Int)<(S[n].toNat:Int))=true:=decide_eq_true d126;clear hRm d33 d126;go_upto_region 15 with fail
    go_quiet (fail);generalize hWq:World.drewN wl _=w2;have hbq:Below wl.heap.size wl w2:=hWq▸below_drewN (qb _ _) _;have HC2:=hid (HCl.later hbq);have HB2:=hid (show Below B w w2 from HBl.trans (hbq.mono HCl.hb));clear hbq hWq c0 c1 c3 cf clt hcb;obtain ⟨c0,c1,c3,cf,clt,hcb⟩:=HC2.cells;go_wp2_with fail
    refine bodyPost_ret (v:=.tuple #[.int .i64 (n:Int),.int .i64 31]) (by simp [results,Tryz.results87,go_sem]) rfl ?_;rw [HEq.out];exact ⟨rfl,HB2.out⟩
   have g126:decide ((126:Int)<(S[n].toNat:Int))=false:=decide_eq_false d126;cases hst:starts [123,123] ((bl S).drop n) with
   |true=>
    have HEq:=hid (show R0=.bad 31 n from by rw [hRm,if_pos (.inr (.inr hst))]);have HPf1:=hid (fun W=>prefix_is hst W);clear hRm hst;go_upto_region 15 with fail
    go_quiet ((go_at_call 54;exact Calls.quiet_of_same (HPf1.out _)));generalize hWq:World.drewN wl _=w2;have hbq:Below wl.heap.size wl w2:=hWq▸below_drewN (qb _ _) _;have HC2:=hid (HCl.later hbq);have HB2:=hid (show Below B w w2 from HBl.trans (hbq.mono HCl.hb));clear hbq hWq c0 c1 c3 cf clt hcb;obtain ⟨c0,c1,c3,cf,clt,hcb⟩:=HC2.cells;go_wp2_with fail
    refine bodyPost_ret (v:=.tuple #[.int .i64 (n:Int),.int .i64 31]) (by simp [results,Tryz.results87,go_sem]) rfl ?_;rw [HEq.out];exact ⟨rfl,HB2.out⟩
   |false=>
   rw [if_neg (fun h=>h.elim (fun h=>d33 (by omega)) (fun h=>h.elim (fun h=>d126 (by omega)) (fun h=>by rw [hst] at h;cases h)))] at hRm;have HPf1:=hid (fun W=>prefix_is hst W);obtain ⟨e2,he2⟩:∃ e2,e2=n+markLen ((bl S).drop n):=⟨_,rfl⟩;rw [take_seg,<-he2] at hRm;have HSp:=hid (show n+1+span mk58 ((bl S).drop (n+1))=e2 from by rw [he2];exact mark_len S n);have HE2:=hid (show n<e2/\e2<=S.size from by have h1:=HSp.out;have h2:=span_le mk58 ((bl S).drop (n+1));rw [List.length_drop,bl_len] at h2;omega);have HRm:=hid hRm;clear hRm hst he2;go_upto_region 15 with fail
   go_quiet ((go_at_call 54;exact Calls.quiet_of_same (HPf1.out _)));generalize hWq:World.drewN wl _=w2;have hbq:Below wl.heap.size wl w2:=hWq▸below_drewN (qb _ _) _;have HC2:=hid (HCl.later hbq);have HB2:=hid (show Below B w w2 from HBl.trans (hbq.mono HCl.hb));clear hbq hWq c0 c1 c3 cf clt hcb;obtain ⟨c0,c1,c3,cf,clt,hcb⟩:=HC2.cells
   go_upto_block 6 with fail
   go_cut [8] from 13 (fun v wq=>v=.int .i64 (e2:Int)/\Below w2.heap.size w2 wq)
   case first=>
    go_wp2_with fail
    go_loopw [8] (fun i wr=>∃ k:Nat,n<k/\k<=S.size/\i=.int .i64 k/\Below w2.heap.size w2 wr/\Hid (k+span mk58 ((bl S).drop k)=e2)) (fun i _=>S.size-(intOf i).toNat)
    case atStart=>exact ⟨n+1,Nat.lt_succ_self n,hn,by go_num,qb _ _,HSp⟩
    case round=>
     obtain ⟨wk,hwk⟩:∃ wk,wk=wr:=⟨_,rfl⟩;subst hwk;obtain ⟨k,hnk,hk,rfl,hbk,hsp⟩:=hrel;have c0:wk.cell? ⟨cb,0,none⟩=some (.string S):=(cell_of_heap (hbk.block _ HC2.cells.2.2.2.2.1)).trans HC2.cells.1;have HBk:=hid hbk;have k0:(0:Int)<=(k:Int):=qj _;clear hbk;by_cases hks:k<S.size
     ·have k1:(k:Int)<(S.size:Int):=Int.ofNat_lt.2 hks
      by_cases m46:S[k]=46
      ·have t46:((S[k].toNat:Int)==46)=true:=by rw [m46];rfl
       have hms:mk58 S[k]=true:=by rw [m46];rfl
       have HSn:=hid (show k+1+span mk58 ((bl S).drop (k+1))=e2 from by
        have h:=hsp.out;rw [span_at hks,if_pos hms] at h;omega)
       have hwk:wrap64 ((k:Int)+1)=(k:Int)+1:=wrap_succ (qi hk hsz)
       (try go_wp2_with fail)
       go_roundw
       case rel=>exact ⟨k+1,Nat.lt_succ_of_lt hnk,hks,by go_num,HBk.out,HSn⟩
       case measure=>exact sp_meas (by first|exact Int.lt_succ _|(rw [hwk];exact Int.lt_succ _)) k0 k1
      ·have t46:((S[k].toNat:Int)==46)=false:=u8_ne m46
       by_cases m58:S[k]=58
       ·have t58:((S[k].toNat:Int)==58)=true:=by rw [m58];rfl
        have hms:mk58 S[k]=true:=by rw [m58];rfl
        have HSn:=hid (show k+1+span mk58 ((bl S).drop (k+1))=e2 from by
         have h:=hsp.out;rw [span_at hks,if_pos hms] at h;omega)
        have hwk:wrap64 ((k:Int)+1)=(k:Int)+1:=wrap_succ (qi hk hsz)
        (try go_wp2_with fail)
        go_roundw
        case rel=>exact ⟨k+1,Nat.lt_succ_of_lt hnk,hks,by go_num,HBk.out,HSn⟩
        case measure=>exact sp_meas (by first|exact Int.lt_succ _|(rw [hwk];exact Int.lt_succ _)) k0 k1
       ·have t58:((S[k].toNat:Int)==58)=false:=u8_ne m58
        have hke:k=e2:=by
         have h:=hsp.out;rw [span_at hks,if_neg (by unfold mk58;simp [m46,m58])] at h;omega
        subst hke;go_wp2_with fail
        go_meet
        case rel=>exact ⟨rfl,HBk.out⟩
     ·have k1:¬(k:Int)<(S.size:Int):=fun h=>hks (Int.ofNat_lt.1 h)
      have hke:k=e2:=by
       have h:=hsp.out;rw [span_end (by omega)] at h;omega
      subst hke;go_wp2_with fail
      go_meet
      case rel=>exact ⟨rfl,HBk.out⟩
   case rest=>
   obtain ⟨rfl,hb3⟩:=hcut;have HC3:=hid (HC2.later hb3);have HB3:=hid (show Below B w _ from HB2.trans (hb3.mono HC2.hb));clear hb3 c0 c1 c3 cf clt hcb;generalize wc=w3 at HC3 HB3 ⊢;obtain ⟨c0,c1,c3,cf,clt,hcb⟩:=HC3.cells;have i1:(n:Int)<=(e2:Int):=Int.ofNat_le.2 (Nat.le_of_lt HE2.out.1);have i2:(e2:Int)<=(S.size:Int):=Int.ofNat_le.2 HE2.out.2;have i3:(0:Int)<=(e2:Int):=qj _;go_upto_region 19 with fail
   go_quiet (fail);generalize hWq:World.drewN w3 _=w4;have hbq:Below w3.heap.size w3 w4:=hWq▸below_drewN (qb _ _) _;have HC4:=hid (HC3.later hbq);have HB4:=hid (show Below B w w4 from HB3.trans (hbq.mono HC3.hb));clear hbq hWq c0 c1 c3 cf clt hcb;obtain ⟨c0,c1,c3,cf,clt,hcb⟩:=HC4.cells;have HLen:=hid (show (seg S n e2).length<=maxLen from by rw [seg_len (Nat.le_of_lt HE2.out.1) HE2.out.2];exact qi (Nat.sub_le _ _) (qi HE2.out.2 (qi HSz.out.2 (by unfold maxLen;decide))));obtain ⟨isP,hIs⟩:∃ b,T.isPrim (seg S n e2)=b:=⟨_,rfl⟩;have HPr:=hid (fun W=>prim_is (s:=S.extract n e2) (b:=isP) (by rw [<-seg_bytes,bl_bytes];exact hIs) W (by rw [<-seg_bytes];simpa [bytes,ByteArray.size] using HLen.out));obtain ⟨kd,hkd⟩:∃ kd,kd=kindOf (seg S n e2):=⟨_,rfl⟩;have HKd:=hid hkd;have hRm:=HRm.out;unfold kindText at hRm;rw [hIs,<-hkd] at hRm;clear hIs hkd;cases isP with
   |true=>
    rw [if_pos rfl,if_neg (by decide)] at hRm;have HEq:=hid hRm;clear hRm;go_wp2_with (first
     |(at_lookup;refine wpList_lookup_run _ (by rfl) _ _ 100 (by rfl) mb _ (.int .i64 kd) (by rfl) (by rfl) (by have h:=lookS (l:=spM) HC4.map Tryz.underlying100 (zero_i _) (seg S n e2) HLen.out;rw [spM_at,seg_bytes,<-HKd.out] at h;exact h) ?_)
     |(go_at_call 60;refine (HPr.out _).mono ?_;rintro e w6 ⟨rfl,hb⟩;have HC6:=hid (HC4.later hb);have HB6:=hid (show Below B w w6 from HB4.trans (hb.mono HC4.hb));obtain ⟨c0,c1,c3,cf,clt,hcb⟩:=HC6.cells;clear hb)
     |(go_at_call 83;refine (put_at HC6.out (4) (e2) (HE2.out.1) (HE2.out.2) (by first|rfl|omega)).mono ?_;rintro e w9 ⟨rfl,hcs,hb⟩;have HC9:=hid hcs;have HB9:=hid (show Below B w w9 from HB6.trans hb);clear hcs hb))
    all_goals
     refine bodyPost_ret (v:=.tuple #[.int .i64 0,.int .i64 0]) (by simp [results,Tryz.results87,go_sem]) rfl ?_;rw [HEq.out];exact ⟨rfl,HC9.out,HB9.out⟩
   |false=>
    simp only [Bool.false_eq_true,if_false] at hRm;by_cases hk0:kd=0
    ·have t0:(kd==0)=true:=by simp [hk0]
     rw [if_pos hk0] at hRm;have HEq:=hid hRm;clear hRm hk0;go_wp2_with (first
      |(at_lookup;refine wpList_lookup_run _ (by rfl) _ _ 100 (by rfl) mb _ (.int .i64 kd) (by rfl) (by rfl) (by have h:=lookS (l:=spM) HC4.map Tryz.underlying100 (zero_i _) (seg S n e2) HLen.out;rw [spM_at,seg_bytes,<-HKd.out] at h;exact h) ?_)
      |(go_at_call 60;refine (HPr.out _).mono ?_;rintro e w6 ⟨rfl,hb⟩;have HC6:=hid (HC4.later hb);have HB6:=hid (show Below B w w6 from HB4.trans (hb.mono HC4.hb));obtain ⟨c0,c1,c3,cf,clt,hcb⟩:=HC6.cells;clear hb))
     all_goals
      refine bodyPost_ret (v:=.tuple #[.int .i64 (n:Int),.int .i64 31]) (by simp [results,Tryz.results87,go_sem]) rfl ?_;rw [HEq.out];exact ⟨rfl,HB6.out⟩
    ·have t0:(kd==0)=false:=by simp [hk0]
     rw [if_neg hk0] at hRm;have HEq:=hid hRm;clear hRm hk0;go_wp2_with (first
      |(at_lookup;refine wpList_lookup_run _ (by rfl) _ _ 100 (by rfl) mb _ (.int .i64 kd) (by rfl) (by rfl) (by have h:=lookS (l:=spM) HC4.map Tryz.underlying100 (zero_i _) (seg S n e2) HLen.out;rw [spM_at,seg_bytes,<-HKd.out] at h;exact h) ?_)
      |(go_at_call 60;refine (HPr.out _).mono ?_;rintro e w6 ⟨rfl,hb⟩;have HC6:=hid (HC4.later hb);have HB6:=hid (show Below B w w6 from HB4.trans (hb.mono HC4.hb));obtain ⟨c0,c1,c3,cf,clt,hcb⟩:=HC6.cells;clear hb)
      |(go_at_call 83;refine (put_at HC6.out (kd) (e2) (HE2.out.1) (HE2.out.2) (by first|rfl|omega)).mono ?_;rintro e w9 ⟨rfl,hcs,hb⟩;have HC9:=hid hcs;have HB9:=hid (show Below B w w9 from HB6.trans hb);clear hcs hb))
     all_goals
      refine bodyPost_ret (v:=.tuple #[.int .i64 0,.int .i64 0]) (by simp [results,Tryz.results87,go_sem]) rfl ?_;rw [HEq.out];exact ⟨rfl,HC9.out,HB9.out⟩
end Pz
open Go.RowKit Go.WideMaps Go.Maps
namespace Pz
structure NumAt (S:ByteArray) (n g e2:Nat):Prop where
 n0:n<S.size
 hg:g=n+signLen ((bl S).drop n)
 he:e2=n+numLen ((bl S).drop n)
 sp:g+span digit ((bl S).drop g)=e2
 ng:n<=g
 ge:g<=e2
 le:e2<=S.size
 lt:n<e2
 form:(g=n/\g<e2)\/(g=n+1/\S[n]=95)
theorem num_at {S:ByteArray} {n:Nat} (hn:n<S.size) (hb:S[n]=95\/digit S[n]=true):∃ g e2,NumAt S n g e2/\((S[n]=95/\g=n+1)\/(S[n]≠95/\g=n)):=by
 have hd:=bl_drop S n hn;have hsl:signLen ((bl S).drop n)=if S[n]=95 then 1 else 0:=by rw [hd];simp [signLen]
 have hnl:numLen ((bl S).drop n)=signLen ((bl S).drop n)+span digit ((bl S).drop (n+signLen ((bl S).drop n))):=by
  unfold numLen;rw [List.drop_drop]
 have hle:=fun k=>span_le digit ((bl S).drop k);simp only [List.length_drop,bl_len] at hle;by_cases h95:S[n]=95
 ·rw [if_pos h95] at hsl
  rw [hsl] at hnl;have h1:=hle (n+1);exact ⟨n+1,n+1+span digit ((bl S).drop (n+1)),⟨hn,by rw [hsl],by rw [hnl];omega,rfl,by omega,by omega,by omega,by omega,.inr ⟨rfl,h95⟩⟩,.inl ⟨h95,rfl⟩⟩
 ·rw [if_neg h95] at hsl
  rw [hsl] at hnl;have h1:=hle n;have h2:=span_at (p:=digit) hn;rw [if_pos (hb.resolve_left h95)] at h2;simp only [Nat.add_zero] at hnl;exact ⟨n,n+span digit ((bl S).drop n),⟨hn,by rw [hsl];rfl,by rw [hnl];omega,rfl,by omega,by omega,by omega,by omega,.inl ⟨rfl,by omega⟩⟩,.inr ⟨h95,rfl⟩⟩
theorem NumAt.bad1 {S:ByteArray} {n:Nat} (ws:List W) (hb:badTail ((bl S).drop n)=true):number ((bl S).drop n) n ws=.bad 30 n:=by
 unfold number;rw [if_pos hb]
theorem NumAt.bad2 {S:ByteArray} {n:Nat} (ws:List W) (hb:badText ((bl S).drop n)=true):number ((bl S).drop n) n ws=.bad 30 n:=by
 unfold number;split
 ·rfl
 ·first|rfl|rw [if_pos hb]
section
variable {S:ByteArray} {n g e2:Nat} (h:NumAt S n g e2)
include h
theorem NumAt.tail:badTail ((bl S).drop n)=(match (bl S)[e2]? with|some c=>alnum c||c==95|none=>false):=by
 unfold badTail;rw [drop_at,<-h.he];cases (bl S)[e2]? <;>rfl
theorem NumAt.tail_in (hq:e2<S.size):badTail ((bl S).drop n)=(alnum S[e2]||S[e2]==95):=by
 rw [h.tail,bl_get S e2 hq]
theorem NumAt.tail_out (hq:¬e2<S.size):badTail ((bl S).drop n)=false:=by
 rw [h.tail,List.getElem?_eq_none (by rw [bl_len];omega)]
theorem NumAt.text:((bl S).drop n).take (numLen ((bl S).drop n))=seg S n e2:=by rw [take_seg,<-h.he]
theorem NumAt.bad:badText ((bl S).drop n)=(seg S n e2 !=[95]&&((decide (1<e2-g)&&(bl S)[g]? ==some 48)||seg S n e2==[95,48]||!inRange (numberOf (seg S n e2)))):=by
 unfold badText;rw [h.text,show numLen ((bl S).drop n)-signLen ((bl S).drop n)=e2-g from by have:=h.he;have:=h.hg;omega,List.drop_drop,<-h.hg,List.head?_drop]
theorem NumAt.digits:∀ c∈seg S g e2,digit c=true:=by
 have:=span_all digit ((bl S).drop g);unfold seg
 rwa [show e2-g=span digit ((bl S).drop g) from by have:=h.sp;omega]
theorem NumAt.shape:(seg S n e2=seg S g e2/\g<e2)\/seg S n e2=95::seg S g e2:=by
 rcases h.form with ⟨hg,hlt⟩|⟨hg,h95⟩
 ·exact .inl ⟨by rw [hg],hlt⟩
 ·refine .inr ?_
  unfold seg;rw [bl_drop S n h.n0,h95,hg,show e2-n=(e2-(n+1))+1 from by have:=h.lt;omega];rfl
theorem NumAt.ne (ht:seg S n e2≠[95]):seg S g e2≠[]:=by
 rcases h.shape with ⟨-,hlt⟩|hs
 ·intro he
  have:=seg_len (S:=S) h.ge h.le;rw [he] at this;simp at this;omega
 ·intro he
  exact ht (by rw [hs,he])
theorem NumAt.parse (ht:seg S n e2≠[95]):Lib.parseIntB 64 (Lib.replace (seg S n e2) [95] [45] 1)=if inRange (numberOf (seg S n e2))=true then .ok (numberOf (seg S n e2)) else .range:=
 parse_number (h.shape.elim (fun h=>.inl h.1) .inr) (h.ne ht) h.digits
theorem NumAt.small (hS:S.size<=1048576):(Lib.replace (seg S n e2) [95] [45] 1).length<=4194304:=by
 have hl:=seg_len (S:=S) h.ge h.le;rcases h.shape with ⟨hs,-⟩|hs
 ·rw [hs,replace_plain _ h.digits,hl]
  have:=h.le;omega
 ·rw [hs,replace_sign,List.length_cons,hl]
  have:=h.le;omega
theorem NumAt.more {ws l:List W} {v:W} {k:List UInt8} (h1:badTail ((bl S).drop n)=false) (h2:badText ((bl S).drop n)=false) (hw:ws=l++[{ v with text:=k }]) (hv:v.kind=1):
 number ((bl S).drop n) n ws=.ok (e2,l++[{ v with text:=k++32::seg S n e2 }]):=by
 unfold number;rw [if_neg (by rw [h1];simp),if_neg (by rw [h2];simp),hw,List.getLast?_concat,h.text,<-h.he];dsimp only;rw [if_pos hv,List.dropLast_concat]
theorem NumAt.puts {ws:List W} (h1:badTail ((bl S).drop n)=false) (h2:badText ((bl S).drop n)=false) (hw:∀ v,ws.getLast? =some v->v.kind≠1):
 number ((bl S).drop n) n ws=.ok (e2,ws++[⟨1,seg S n e2,n⟩]):=by
 unfold number;rw [if_neg (by rw [h1];simp),if_neg (by rw [h2];simp),h.text,<-h.he];cases hl:ws.getLast? with
 |none=>
  rw [List.getLast?_eq_none_iff.1 hl];rfl
 |some v=>
  dsimp only;rw [if_neg (hw v hl)]
end
theorem grown_two {a b c d:World} {r:Option Nat} {g:Nat} (h:Below a.heap.size a b) (h1:b.grownBy c r) (hat:r=some g\/g=b.heap.size) (h2:c.grownBy d (some g)):a.grownBy d r:=
 ⟨h2.os.trans (h1.os.trans h.os),h2.tape.trans (h1.tape.trans h.tape),h2.output.trans (h1.output.trans h.output),qi h.size (qi h1.size h2.size),fun i hi hne=>by
  have hi1:=Nat.lt_of_lt_of_le hi h.size;refine ((h2.block i (Nat.lt_of_lt_of_le hi1 h1.size) (fun e=>?_)).trans (h1.block i hi1 hne)).trans (h.block i hi);rcases hat with hat|hat
  ·exact hne (by rw [hat];exact e)
  ·have:=Option.some.inj e
   omega⟩
theorem cells_more (k:List UInt8) (S:ByteArray) (n e2:Nat):(Lib.strCells (bytes k)++[.int .u8 32])++Lib.strCells (S.extract n e2)=Lib.strCells (bytes (k++32::seg S n e2)):=by
 rw [<-seg_bytes];simp [Lib.strCells,bytes]
theorem CS.numbered {B:Nat} {w:World} {cb mb:Nat} {S:ByteArray} {n e2:Nat} {ws:List W} {wv rv:Value} {last:Int} {l:List W} {v:W} {k:List UInt8} (h:CS B w cb mb S n ws) (hm:CM B w cb mb S n wv last rv (l++[v]) k) (hv:v.kind=1) (hk:k.length<=2*n) (hf:fixW (l++[v]) k=ws) {w6:World} {v6:Value} (hg:w.grownBy w6 rv.ownBlock)
 (hown:w6.ownsRow B 5 1 v6 (k.length+1+(S.extract n e2).size) ((Lib.strCells (bytes k)++[.int .u8 32])++Lib.strCells (S.extract n e2))) (h1:n<e2) (h2:e2<=S.size) {u:Value} (hu:u=.int .i64 (e2:Int)):
 CS B ((w6.setCell ⟨cb,5,none⟩ v6).setCell ⟨cb,1,none⟩ u) cb mb S e2 (l++[{ v with text:=k++32::seg S n e2 }])/\Below B w ((w6.setCell ⟨cb,5,none⟩ v6).setCell ⟨cb,1,none⟩ u):=by
 have hl:(seg S n e2).length=e2-n:=seg_len (Nat.le_of_lt h1) h2;rw [cells_more,show k.length+1+(S.extract n e2).size=(k++32::seg S n e2).length from by rw [seg_size (Nat.le_of_lt h1) h2,List.length_append,List.length_cons,hl];omega] at hown;have hb:Below B w ((w6.setCell ⟨cb,5,none⟩ v6).setCell ⟨cb,1,none⟩ u):=(hm.below hg (fun g hg=>(ownsRow_lt hm.row g hg).1) h.hb).setCell (p:=⟨cb,1,none⟩) hm.cb0 _;refine ⟨⟨⟨_,_,_,_,_,(hm.rowed hg hown).place e2 hu,?_,fun _ _ _=>by simp,?_⟩,?_,h.sz,h2,qi h.hb hb.size,h.vars.kept (hb.block _ h.gb.1) (hb.block _ h.gb.2),h.gb⟩,hb⟩
 ·rw [fixW_snoc,if_pos hv]
 ·rw [List.length_append,List.length_cons,hl]
  omega
 ·have:=h.len
  rw [<-hf,fixW_len,List.length_append] at this;rw [List.length_append];simp at this ⊢;omega
theorem cutnum_max {k m n:Nat} {S:ByteArray} (hk:k<=2*n) (hm:m<=S.size) (hn:n<=S.size) (hS:S.size<=1048576):(k+1<=maxLen/\(k+1)*1<=140737488355328)/\k+1+m<=maxLen/\k+1+m<=140737488355328:=by
 unfold maxLen;omega
theorem cutnum_calls {B:Nat} {w:World} {cb mb:Nat} {S:ByteArray} {n:Nat} {ws:List W} (h:CS B w cb mb S n ws) (hn:n<S.size) (hb:S[n]=95\/digit S[n]=true):
 Calls Tryz.prog 85 #[.pointer (some ⟨cb,0,none⟩)] w (PC B cb mb S w (number ((bl S).drop n) n ws)):=by
 obtain ⟨i8,hi8,hz0,hz1,hz2⟩:=info_parts info_u8;obtain ⟨g,e2,hN,hg⟩:=num_at hn hb;obtain ⟨R0,hR0⟩:∃ R0,number ((bl S).drop n) n ws=R0:=⟨_,rfl⟩;rw [hR0];have HR:=hid hR0;have HN:=hid hN;have H:=hid h;have hsz:=h.sz;have HSz:=hid hsz;have hn0:(0:Int)<=(n:Int):=qj _;have hn1:(n:Int)<(S.size:Int):=Int.ofNat_lt.2 hn;have he0:(0:Int)<=(e2:Int):=qj _;have he1:(n:Int)<=(e2:Int):=Int.ofNat_le.2 (Nat.le_of_lt hN.lt);have he2:(e2:Int)<=(S.size:Int):=Int.ofNat_le.2 hN.le;have hg0:(0:Int)<=(g:Int):=qj _;obtain ⟨c0,c1,c3,cf,clt,hcb⟩:=h.cells;clear h hb hR0 hN;go_enter Tryz.func85,Tryz.ntmps85
 go_upto_region 2 with fail
 go_upto_if 21 with fail
 go_cut [4] from 11 (fun v wq=>v=.int .i64 (g:Int)/\Below w.heap.size w wq)
 case first=>
  rcases hg with ⟨h95,hg⟩|⟨h95,hg⟩
  ·have s95:((S[n].toNat:Int)==95)=true:=by rw [h95];rfl
   have hw1:wrap64 ((n:Int)+1)=(n:Int)+1:=wrap_succ (qi (Nat.le_of_lt hn) hsz);subst hg;go_wp2_with fail
   go_meet
   case rel=>exact ⟨by go_num,qb _ _⟩
  ·have s95:((S[n].toNat:Int)==95)=false:=u8_ne h95
   subst hg;go_wp2_with fail
   go_meet
   case rel=>exact ⟨rfl,qb _ _⟩
 case rest=>
 obtain ⟨rfl,hb1⟩:=hcut;have HC1:=hid (H.later hb1);have HB1:=hid (show Below B w _ from hb1.mono H.hb);clear hb1 c0 c1 c3 cf clt hcb hg;generalize wc=w1 at HC1 HB1 ⊢
 go_upto_block 0 with fail
 go_cut [4] from 11 (fun v wq=>v=.int .i64 (e2:Int)/\Below w1.heap.size w1 wq)
 case first=>
  go_wp2_with fail
  go_loopw [4] (fun i wr=>∃ k:Nat,k<=S.size/\i=.int .i64 k/\Below w1.heap.size w1 wr/\Hid (k+span digit ((bl S).drop k)=e2)) (fun i _=>S.size-(intOf i).toNat)
  case atStart=>exact ⟨g,qi HN.ge HN.le,rfl,qb _ _,hid HN.sp⟩
  case round=>
   obtain ⟨wk,hwk⟩:∃ wk,wk=wr:=⟨_,rfl⟩;subst hwk;obtain ⟨k,hk,rfl,hbk,hsp⟩:=hrel;have c0:wk.cell? ⟨cb,0,none⟩=some (.string S):=(cell_of_heap (hbk.block _ HC1.cells.2.2.2.2.1)).trans HC1.cells.1;have HBk:=hid hbk;have k0:(0:Int)<=(k:Int):=qj _;clear hbk;by_cases hlt:k<S.size
   ·have k1:(k:Int)<(S.size:Int):=Int.ofNat_lt.2 hlt
    cases ha:digit S[k] with
    |true=>
     have hw:wrap64 ((k:Int)+1)=(k:Int)+1:=wrap_succ (qi hk hsz);have HSp:=hid (show k+1+span digit ((bl S).drop (k+1))=e2 from by
      have:=hsp.out;rw [span_at hlt,ha,if_pos rfl] at this;omega)
     go_wp2_with (first
      |(go_at_call 84;refine (digit_is ha _).mono ?_;rintro e w2 ⟨rfl,hb2⟩;have HB2:=hid (HBk.trans (hb2.mono HBk.size));have c0:w2.cell? ⟨cb,0,none⟩=some (.string S):=(cell_of_heap (hb2.block _ (qc _ _ c0))).trans c0;clear hb2))
     go_roundw
     case rel=>exact ⟨k+1,hlt,by go_num,HB2.out,HSp⟩
     case measure=>exact sp_meas (by first|exact Int.lt_succ _|(rw [hw];exact Int.lt_succ _)) k0 k1
    |false=>
     have hke:k=e2:=by
      have:=hsp.out;rw [span_at hlt,ha,if_neg (by simp)] at this;omega
     subst hke;go_wp2_with (first
      |(go_at_call 84;refine (digit_is ha _).mono ?_;rintro e w2 ⟨rfl,hb2⟩;have HB2:=hid (HBk.trans (hb2.mono HBk.size));have c0:w2.cell? ⟨cb,0,none⟩=some (.string S):=(cell_of_heap (hb2.block _ (qc _ _ c0))).trans c0;clear hb2))
     go_meet
     case rel=>exact ⟨rfl,HB2.out⟩
   ·have hke:k=e2:=by
     have:=hsp.out;rw [span_end (by omega)] at this;omega
    subst hke;have k1:¬(k:Int)<(S.size:Int):=fun h=>hlt (Int.ofNat_lt.1 h);go_wp2_with fail
    go_meet
    case rel=>exact ⟨rfl,HBk.out⟩
 case rest=>
 obtain ⟨rfl,hb2⟩:=hcut;have HC2:=hid (HC1.later hb2);have HB2:=hid (show Below B w _ from HB1.trans (hb2.mono HC1.hb));clear hb2;generalize wc=w2 at HC2 HB2 ⊢;obtain ⟨c0,c1,c3,cf,clt,hcb⟩:=HC2.cells;obtain ⟨bt,hbt⟩:∃ bt,badTail ((bl S).drop n)=bt:=⟨_,rfl⟩;have HBt:=hid hbt;clear hbt;go_upto_region 7 with fail
 go_cut [6] from 11 (fun v wq=>v=.bool bt/\Below w2.heap.size w2 wq)
 case first=>
  by_cases hq:e2<S.size
  ·have hbt:=HBt.out
   rw [HN.tail_in hq] at hbt;have d1:(e2:Int)<(S.size:Int):=Int.ofNat_lt.2 hq;cases ha:alnum S[e2] with
   |true=>
    rw [ha,Bool.true_or] at hbt;subst hbt;go_wp2_with (first
     |(go_at_call 99;refine (alnum_is ha _).mono ?_;rintro e w3 ⟨rfl,hb⟩;have HB3:=hid hb;have c0:w3.cell? ⟨cb,0,none⟩=some (.string S):=(HC2.later hb).cells.1;clear hb))
    go_meet
    case rel=>exact ⟨rfl,HB3.out⟩
   |false=>
    rw [ha,Bool.false_or] at hbt;by_cases h95:S[e2]=95
    ·have t95:((S[e2].toNat:Int)==95)=true:=by rw [h95];rfl
     rw [show (S[e2]==95)=true from by rw [h95];rfl] at hbt;subst hbt;clear h95;go_wp2_with (first
      |(go_at_call 99;refine (alnum_is ha _).mono ?_;rintro e w3 ⟨rfl,hb⟩;have HB3:=hid hb;have c0:w3.cell? ⟨cb,0,none⟩=some (.string S):=(HC2.later hb).cells.1;clear hb))
     go_meet
     case rel=>exact ⟨rfl,HB3.out⟩
    ·have t95:((S[e2].toNat:Int)==95)=false:=u8_ne h95
     rw [show (S[e2]==95)=false from by simp [h95]] at hbt;subst hbt;clear h95;go_wp2_with (first
      |(go_at_call 99;refine (alnum_is ha _).mono ?_;rintro e w3 ⟨rfl,hb⟩;have HB3:=hid hb;have c0:w3.cell? ⟨cb,0,none⟩=some (.string S):=(HC2.later hb).cells.1;clear hb))
     go_meet
     case rel=>exact ⟨rfl,HB3.out⟩
  ·have d1:¬(e2:Int)<(S.size:Int):=fun h=>hq (Int.ofNat_lt.1 h)
   have hbt:=HBt.out;rw [HN.tail_out hq] at hbt;subst hbt;go_wp2_with fail
   go_meet
   case rel=>exact ⟨rfl,qb _ _⟩
 case rest=>
 obtain ⟨rfl,hb3⟩:=hcut;have HC3:=hid (HC2.later hb3);have HB3:=hid (show Below B w _ from HB2.trans (hb3.mono HC2.hb));clear hb3 c0 c1 c3 cf clt hcb;generalize wc=w3 at HC3 HB3 ⊢;obtain ⟨c0,c1,c3,cf,clt,hcb⟩:=HC3.cells;go_upto_region 8 with fail
 go_quiet (fail);generalize hWq:World.drewN w3 _=w4;have hbq:Below w3.heap.size w3 w4:=hWq▸below_drewN (qb _ _) _;have HC4:=hid (HC3.later hbq);have HB4:=hid (show Below B w w4 from HB3.trans (hbq.mono HC3.hb));clear hbq hWq c0 c1 c3 cf clt hcb;obtain ⟨c0,c1,c3,cf,clt,hcb⟩:=HC4.cells
 go_upto_block 2 with fail
 go_cut [] from 11 (fun wq=>Below w4.heap.size w4 wq/\Hid (badTail ((bl S).drop n)=false/\badText ((bl S).drop n)=false))
 case first=>
  cases bt with
  |true=>
   have HEq:=hid (HR.symm.trans (NumAt.bad1 ws HBt.out));go_wp2_with fail
   refine bodyPost_ret (v:=.tuple #[.int .i64 (n:Int),.int .i64 30]) (by simp [results,Tryz.results85,go_sem]) rfl ?_;rw [HEq.out];exact ⟨rfl,HB4.out⟩
  |false=>
  have hbad:=HN.bad;by_cases h95:seg S n e2=[95]
  ·have y0:((S.extract n e2).toList==[95])=true:=by rw [<-seg_bytes,text_beq];simp [h95]
   have HOk:=hid (show badText ((bl S).drop n)=false from by rw [hbad,h95];rfl);clear hbad h95;go_wp2_with fail
   go_meet
   case rel=>exact ⟨qb _ _,hid ⟨HBt.out,HOk.out⟩⟩
  have y0:((S.extract n e2).toList==[95])=false:=by rw [<-seg_bytes,text_beq];simp [h95]
  rw [show (seg S n e2 !=[95])=true from by simp [h95],Bool.true_and] at hbad;obtain ⟨dn,hdn⟩:∃ dn,dn=e2-g:=⟨_,rfl⟩;have hsub:wrap64 ((e2:Int)-(g:Int))=(e2:Int)-(g:Int):=by
   have h1:=HN.ge;have h2:=HN.le;unfold wrap64;omega
  rw [<-hdn] at hbad;by_cases hz:1<dn/\∃ hq:g<S.size,S[g]=48
  ·obtain ⟨hz1,hz2,hz3⟩:=hz
   have d1:(1:Int)<(e2:Int)-(g:Int):=by omega
   have g1:(g:Int)<(S.size:Int):=Int.ofNat_lt.2 hz2;have t48:((S[g].toNat:Int)==48)=true:=by rw [hz3];rfl
   rw [decide_eq_true hz1,bl_get S g hz2,hz3] at hbad;have HEq:=hid (HR.symm.trans (NumAt.bad2 ws (by rw [hbad];rfl)));clear hbad hdn h95 hz1 hz3;go_wp2_with fail
   refine bodyPost_ret (v:=.tuple #[.int .i64 (n:Int),.int .i64 30]) (by simp [results,Tryz.results85,go_sem]) rfl ?_;rw [HEq.out];exact ⟨rfl,HB4.out⟩
  have hz0f:(decide (1<dn)&&(bl S)[g]? ==some 48)=false:=by
   rw [Bool.and_eq_false_iff];by_cases h1:1<dn
   ·refine .inr ?_
    have hq:g<S.size:=by have:=HN.le;omega
    rw [bl_get S g hq];simp;exact fun e=>hz ⟨h1,hq,e⟩
   ·exact .inl (decide_eq_false h1)
  rw [hz0f,Bool.false_or] at hbad;by_cases hd:1<dn
  ·have d1:(1:Int)<(e2:Int)-(g:Int):=by omega
   have hq:g<S.size:=by have:=HN.le;omega
   have g1:(g:Int)<(S.size:Int):=Int.ofNat_lt.2 hq;have t48:((S[g].toNat:Int)==48)=false:=u8_ne (fun e=>hz ⟨hd,hq,e⟩);clear hz hz0f hdn hd;by_cases h0:seg S n e2=[95,48]
   ·have y1:((S.extract n e2).toList==[95,48])=true:=by rw [<-seg_bytes,text_beq];simp [h0]
    have HEq:=hid (HR.symm.trans (NumAt.bad2 ws (by rw [hbad,h0];rfl)));clear hbad h95 h0;go_wp2_with fail
    refine bodyPost_ret (v:=.tuple #[.int .i64 (n:Int),.int .i64 30]) (by simp [results,Tryz.results85,go_sem]) rfl ?_;rw [HEq.out];exact ⟨rfl,HB4.out⟩
   have y1:((S.extract n e2).toList==[95,48])=false:=by rw [<-seg_bytes,text_beq];simp [h0]
   rw [show (seg S n e2==[95,48])=false from by simp [h0],Bool.false_or] at hbad;have hpa:=HN.parse h95;have HRe:=hid (fun W hv=>replace_calls (seg S n e2) W (by rw [seg_len (Nat.le_of_lt HN.lt) HN.le];exact qi (Nat.sub_le _ _) (qi HN.le (qi HSz.out (by decide)))) hv);rw [seg_bytes] at HRe;cases hr:inRange (numberOf (seg S n e2)) with
   |true=>
    rw [hr,if_pos rfl] at hpa;have HPa:=hid (fun W=>parse_ok _ _ W (HN.small HSz.out) hpa);have HOk:=hid (show badText ((bl S).drop n)=false from by rw [hbad,hr];rfl);clear hbad h95 h0 hpa hr;go_wp2_with (first
     |(go_at_call 101;refine (HRe.out _ HC4.vars).mono ?_;rintro e w5 ⟨rfl,hb⟩;have HB5:=hid hb;have HC5:=hid (HC4.later hb);clear hb)
     |(go_at_call 100;refine (HPa.out _).mono ?_;rintro e w6 ⟨rfl,hb⟩;have HB6:=hid (HB5.trans (hb.mono HB5.size));clear hb))
    go_meet
    case rel=>exact ⟨HB6.out,hid ⟨HBt.out,HOk.out⟩⟩
   |false=>
    rw [hr,if_neg (by simp)] at hpa;have HPa:=hid (fun W hv=>parse_range _ W (HN.small HSz.out) hpa hv);have HEq:=hid (HR.symm.trans (NumAt.bad2 ws (by rw [hbad,hr];rfl)));clear hbad h95 h0 hpa hr;go_wp2_with (first
     |(go_at_call 101;refine (HRe.out _ HC4.vars).mono ?_;rintro e w5 ⟨rfl,hb⟩;have HB5:=hid hb;have HC5:=hid (HC4.later hb);clear hb)
     |(go_at_call 100;refine (HPa.out _ HC5.vars).mono ?_;rintro e w6 ⟨⟨pv,pt,pp,rfl⟩,hb⟩;have HB6:=hid (HB5.trans (hb.mono HB5.size));have HC6:=hid (HC5.later hb);clear hb c0 c1 c3 cf clt hcb;obtain ⟨c0,c1,c3,cf,clt,hcb⟩:=HC6.cells))
    refine bodyPost_ret (v:=.tuple #[.int .i64 (n:Int),.int .i64 30]) (by simp [results,Tryz.results85,go_sem]) rfl ?_;rw [HEq.out];exact ⟨rfl,HB4.trans (HB6.mono HC4.hb)⟩
  ·have d1:¬(1:Int)<(e2:Int)-(g:Int):=by omega
   clear hz hz0f hdn hd;by_cases h0:seg S n e2=[95,48]
   ·have y1:((S.extract n e2).toList==[95,48])=true:=by rw [<-seg_bytes,text_beq];simp [h0]
    have HEq:=hid (HR.symm.trans (NumAt.bad2 ws (by rw [hbad,h0];rfl)));clear hbad h95 h0;go_wp2_with fail
    refine bodyPost_ret (v:=.tuple #[.int .i64 (n:Int),.int .i64 30]) (by simp [results,Tryz.results85,go_sem]) rfl ?_;rw [HEq.out];exact ⟨rfl,HB4.out⟩
   have y1:((S.extract n e2).toList==[95,48])=false:=by rw [<-seg_bytes,text_beq];simp [h0]
   rw [show (seg S n e2==[95,48])=false from by simp [h0],Bool.false_or] at hbad;have hpa:=HN.parse h95;have HRe:=hid (fun W hv=>replace_calls (seg S n e2) W (by rw [seg_len (Nat.le_of_lt HN.lt) HN.le];exact qi (Nat.sub_le _ _) (qi HN.le (qi HSz.out (by decide)))) hv);rw [seg_bytes] at HRe;cases hr:inRange (numberOf (seg S n e2)) with
   |true=>
    rw [hr,if_pos rfl] at hpa;have HPa:=hid (fun W=>parse_ok _ _ W (HN.small HSz.out) hpa);have HOk:=hid (show badText ((bl S).drop n)=false from by rw [hbad,hr];rfl);clear hbad h95 h0 hpa hr;go_wp2_with (first
     |(go_at_call 101;refine (HRe.out _ HC4.vars).mono ?_;rintro e w5 ⟨rfl,hb⟩;have HB5:=hid hb;have HC5:=hid (HC4.later hb);clear hb)
     |(go_at_call 100;refine (HPa.out _).mono ?_;rintro e w6 ⟨rfl,hb⟩;have HB6:=hid (HB5.trans (hb.mono HB5.size));clear hb))
    go_meet
    case rel=>exact ⟨HB6.out,hid ⟨HBt.out,HOk.out⟩⟩
   |false=>
    rw [hr,if_neg (by simp)] at hpa;have HPa:=hid (fun W hv=>parse_range _ W (HN.small HSz.out) hpa hv);have HEq:=hid (HR.symm.trans (NumAt.bad2 ws (by rw [hbad,hr];rfl)));clear hbad h95 h0 hpa hr;go_wp2_with (first
     |(go_at_call 101;refine (HRe.out _ HC4.vars).mono ?_;rintro e w5 ⟨rfl,hb⟩;have HB5:=hid hb;have HC5:=hid (HC4.later hb);clear hb)
     |(go_at_call 100;refine (HPa.out _ HC5.vars).mono ?_;rintro e w6 ⟨⟨pv,pt,pp,rfl⟩,hb⟩;have HB6:=hid (HB5.trans (hb.mono HB5.size));have HC6:=hid (HC5.later hb);clear hb c0 c1 c3 cf clt hcb;obtain ⟨c0,c1,c3,cf,clt,hcb⟩:=HC6.cells))
    refine bodyPost_ret (v:=.tuple #[.int .i64 (n:Int),.int .i64 30]) (by simp [results,Tryz.results85,go_sem]) rfl ?_;rw [HEq.out];exact ⟨rfl,HB4.trans (HB6.mono HC4.hb)⟩
 case rest=>
 obtain ⟨hb5,hok⟩:=hcut;have HC5:=hid (HC4.later hb5);have HB5:=hid (show Below B w _ from HB4.trans (hb5.mono HC4.hb));clear hb5 c0 c1 c3 cf clt hcb;generalize wc=w5 at HC5 HB5 ⊢;obtain ⟨wv,last,rv,vs,k,hm,hf,hkn,hkl⟩:=HC5.ex;obtain ⟨A1,cap1,rfl⟩:=row_forms hm.words;obtain ⟨A2,cap2,rfl⟩:=row_forms hm.row;obtain ⟨c0,c1,c2,c3,c4,c5,cf,clt⟩:=hm.cells;have HM:=hid hm;have HF:=hid hf;rcases List.eq_nil_or_concat vs with rfl|⟨l,v,rfl⟩
 ·have HEq:=hid (HR.symm.trans (HN.puts hok.out.1 hok.out.2 (by rw [<-hf,fixW_nil];intro v hv;cases hv)))
  clear hm hf hkn hkl;go_wp2_with (go_at_call 83;refine (put_at HC5.out 1 e2 HN.lt HN.le rfl).mono ?_;rintro e w9 ⟨rfl,hcs,hb⟩;have HC9:=hid hcs;have HB9:=hid (show Below B w w9 from HB5.trans hb);clear hcs hb)
  all_goals
   refine bodyPost_ret (v:=.tuple #[.int .i64 0,.int .i64 0]) (by simp [results,Tryz.results85,go_sem]) rfl ?_;rw [HEq.out];exact ⟨rfl,HC9.out,HB9.out⟩
 ·rw [List.concat_eq_append] at*
  have hlen:(l++[v]).length=l.length+1:=by simp
  have hll:l.length<=1048576:=by
   have h1:=HC5.len;have h2:=HC5.le;rw [<-hf,fixW_len,hlen] at h1;omega
  rw [hlen] at c2;obtain ⟨g1,rfl⟩:∃ g,A1=some ⟨g,0,none⟩:=by
   rcases hm.words.2 with ⟨e,h0⟩|⟨g,cap',cur,e,_⟩
   ·rw [hlen] at h0;omega
   ·cases e;exact ⟨g,rfl⟩
  have k0:w5.cell? ⟨g1,l.length*3,none⟩=some (.int .i64 v.kind):=by
   have:=hm.words.cellAt (l.length*3+0) (by rw [hlen];omega);rw [Nat.add_zero] at this;rw [this];have:=wflat_at (l++[v]) l.length v (by simp) 0 _ rfl;rw [Nat.add_zero] at this;exact this
  have hw:wrap64 (l.length:Int)=l.length:=wrap_nat (by omega);have i0:(0:Int)<=(l.length:Int):=qj _;have i1:(l.length:Int)<(l.length:Int)+1:=Int.lt_succ _;have hgl:g1<w5.heap.size:=(ownsRow_lt hm.words g1 rfl).2;by_cases h1:v.kind=1
  ·have d1:(v.kind==1)=true:=by simp [h1]
   rw [fixW_snoc,if_pos h1] at hf;have HEq:=hid (HR.symm.trans (HN.more hok.out.1 hok.out.2 hf.symm h1));have HV:=hid h1;have HK:=hid hkl;have HMx:=hid (cutnum_max (m:=(S.extract n e2).size) hkl (by rw [seg_size (Nat.le_of_lt HN.lt) HN.le];exact qi (Nat.sub_le _ _) HN.le) (Nat.le_of_lt HN.n0) HSz.out);have HB0:=hid HC5.hb;clear hm hf hkn hkl h1;go_upto_region 21 with (first
    |(at_builtin;refine wpList_append_lies _ (by rfl) _ _ 79 (by rfl) B 5 i8 (.int .u8 0) 1 1 Tryz.underlying79 hi8 hz0 hz1 hz2 (by rfl) (by decide) (.slice A2 k.length cap2) k.length (Lib.strCells (bytes k)) (by rfl) (ownsRow_kept HM.row (fun b hb=>(show Below w5.heap.size w5 _ from by go_grown).block b (ownsRow_lt HM.row b hb).2)) ⟨w5.heap.size,0,none⟩ 1 1 [.int .u8 32] (by rfl) (by rfl) (by exact World.news_of_block (heap_new _ _)) (by intro u hu;simp at hu;subst hu;rfl) (by decide) HMx.out.1.1 HMx.out.1.2 (by have:=HB0.out;simp;omega) _ rfl ?_;intro g6 cap6 w6 hown hgrow hat hlt;have HO6:=hid hown;have HG6:=hid hgrow;have HA6:=hid hat;have HL6:=hid (qi HB0.out (qi (show w5.heap.size<=_ from (show Below w5.heap.size w5 _ from by go_grown).size) hgrow.size));clear hown hgrow hat hlt)
    |(at_builtin;refine Lib.wpList_append_own_string _ (by rfl) _ _ 79 9 (by rfl) B 5 i8 Tryz.underlying79 Tryz.underlying9 hi8 hz0 hz1 hz2 (.slice (some ⟨g6,0,none⟩) (k.length+1) cap6) (k.length+1) (Lib.strCells (bytes k)++[.int .u8 32]) (by rfl) HO6.out (S.extract n e2) (by rfl) HMx.out.2.1 HMx.out.2.2 HL6.out ?_;intro v7 w7 hown hgrow hnil;obtain ⟨A7,cap7,rfl⟩:=row_forms hown;have HO7:=hid hown;have HG7:=hid (show w5.grownBy w7 (Value.slice A2 k.length cap2).ownBlock from grown_two (by go_grown) HG6.out HA6.out hgrow);obtain ⟨hbx,-,-⟩:=HM.grown HG7.out (fun g hg=>⟨_,row_typed HM.row hg,by decide⟩);have x1:=hbx.cell 1 (.int .i64 (n:Int)) rfl;have x5:=hbx.cell 5 (.slice A2 k.length cap2) rfl;have xf:=hbx.fz;have xl:=hbx.lt;clear hown hgrow hnil hbx))
   all_goals
    generalize hW7:World.setCell w7 _ _=w8;have c1:w8.cell? ⟨cb,1,none⟩=some (.int .i64 (n:Int)):=by
     rw [<-hW7];simp [go_sem,x1]
    have cf:∀ o,w8.frozen? ⟨cb,o,none⟩=false:=fun o=>by rw [<-hW7];simp [go_sem,xf]
    have clt:cb<w8.heap.size:=by rw [<-hW7];simpa [World.setCell] using xl
    have HW7:=hid hW7;clear hW7 x1 x5 xf xl;go_wp2_with fail
    refine bodyPost_ret (v:=.tuple #[.int .i64 0,.int .i64 0]) (by simp [results,Tryz.results85,go_sem]) rfl ?_;rw [HEq.out,<-HW7.out];have hfin:=HC5.numbered HM.out HV.out HK.out HF.out HG7.out HO7.out HN.lt HN.le rfl;rw [show (S.extract n e2).size=min e2 S.size-n from ByteArray.size_extract] at hfin;exact ⟨rfl,hfin.1,HB5.trans hfin.2⟩
  ·have d1:(v.kind==1)=false:=by simp [h1]
   rw [fixW_snoc,if_neg h1] at hf;have HEq:=hid (HR.symm.trans (HN.puts hok.out.1 hok.out.2 (by rw [<-hf,List.getLast?_concat];intro u hu;cases hu;exact h1)));clear hm hf hkn hkl h1;go_wp2_with (go_at_call 83;refine (put_at HC5.out 1 e2 HN.lt HN.le rfl).mono ?_;rintro e w9 ⟨rfl,hcs,hb⟩;have HC9:=hid hcs;have HB9:=hid (show Below B w w9 from HB5.trans hb);clear hcs hb)
   all_goals
    refine bodyPost_ret (v:=.tuple #[.int .i64 0,.int .i64 0]) (by simp [results,Tryz.results85,go_sem]) rfl ?_;rw [HEq.out];exact ⟨rfl,HC9.out,HB9.out⟩
end Pz
open Go.RowKit Go.WideMaps Go.Maps
namespace Pz
theorem number_is {B:Nat} {w:World} {cb mb:Nat} {S:ByteArray} {n:Nat} {ws:List W} {r:R (Nat × List W)} (hr:number ((bl S).drop n) n ws=r) (h:CS B w cb mb S n ws) (hn:n<S.size) (hb:S[n]=95\/digit S[n]=true):
 Calls Tryz.prog 85 #[.pointer (some ⟨cb,0,none⟩)] w (PC B cb mb S w r):=hr▸cutnum_calls h hn hb
theorem name_is {B:Nat} {w:World} {cb mb:Nat} {S:ByteArray} {n:Nat} {ws:List W} {r:R (Nat × List W)} (h:CS B w cb mb S n ws) (hn:n<S.size) (hr:name S[n] ((bl S).drop n) n ws=r) (hb:alnum S[n]=true):
 Calls Tryz.prog 86 #[.pointer (some ⟨cb,0,none⟩),.int .u8 (S[n].toNat:Int)] w (PC B cb mb S w r):=hr▸name_calls h hn hb
theorem mark_is {B:Nat} {w:World} {cb mb:Nat} {S:ByteArray} {n:Nat} {ws:List W} {r:R (Nat × List W)} (h:CS B w cb mb S n ws) (hn:n<S.size) (hr:mark S[n] ((bl S).drop n) n ws=r):
 Calls Tryz.prog 87 #[.pointer (some ⟨cb,0,none⟩),.int .u8 (S[n].toNat:Int)] w (PC B cb mb S w r):=hr▸mark_calls h hn
theorem PC.good {B cb mb:Nat} {S:ByteArray} {w:World} {m:Nat} {ws:List W} {e:Ending} {w':World} (h:PC B cb mb S w (.ok (m,ws)) e w'):e=.returned (.tuple #[.int .i64 0,.int .i64 0])/\CS B w' cb mb S m ws/\Below B w w':=h
theorem PC.wrong {B cb mb:Nat} {S:ByteArray} {w:World} {c p:Int} {e:Ending} {w':World} (h:PC B cb mb S w (.bad c p) e w'):e=.returned (.tuple #[.int .i64 p,.int .i64 c])/\Below B w w':=h
def ReqAt (S:ByteArray) (n:Nat) (hn:n<S.size):Prop:=S[n]=41/\n=0/\∃ h:1<S.size,letter S[1]=true
theorem head_is {S:ByteArray} {k:Nat} (h:k<S.size) (p:UInt8->Bool):headIs p ((bl S).drop k)=p S[k]:=by rw [bl_drop S k h];rfl
theorem head_end {S:ByteArray} {k:Nat} (h:¬k<S.size) (p:UInt8->Bool):headIs p ((bl S).drop k)=false:=by
 rw [List.drop_eq_nil_of_le (by rw [bl_len];omega)];rfl
theorem word_req {S:ByteArray} {ws:List W} (hn:0<S.size) (h:ReqAt S 0 hn):word ((bl S).drop 0) 0 ws=.ok (1+span letter ((bl S).drop 1),ws++[⟨7,seg S 0 (1+span letter ((bl S).drop 1)),0⟩]):=by
 obtain ⟨h1,-,h2,h3⟩:=h;have hd:=bl_drop S 0 hn;have hs:((bl S).drop 0).take (1+span letter ((bl S).drop 1))=seg S 0 (1+span letter ((bl S).drop 1)):=by
  rw [take_seg,Nat.zero_add]
 unfold word;rw [<-hs];rw [hd];dsimp only;rw [if_pos ⟨h1,rfl,by rw [head_is h2];exact h3⟩]
theorem word_no {S:ByteArray} {n:Nat} {ws:List W} (hn:n<S.size) (h:¬ReqAt S n hn):word ((bl S).drop n) n ws=if S[n]=95\/digit S[n]=true then number ((bl S).drop n) n ws else if letter S[n]=true then name S[n] ((bl S).drop n) n ws else mark S[n] ((bl S).drop n) n ws:=by
 have hd:=bl_drop S n hn;unfold word;rw [hd];dsimp only;rw [if_neg (fun hc=>h ?_)];refine ⟨hc.1,hc.2.1,?_⟩;have h0:=hc.2.1;have h3:=hc.2.2;subst h0;by_cases h1:1<S.size
 ·rw [head_is h1] at h3
  exact ⟨h1,h3⟩
 ·rw [head_end h1] at h3
  cases h3
theorem word_lt {S:ByteArray} {n:Nat} {ws:List W} (hn:n<S.size) {m:Nat} {ws':List W} (h:word ((bl S).drop n) n ws=.ok (m,ws')):n<m:=by
 by_cases hr:ReqAt S n hn
 ·have h0:=hr.2.1
  subst h0;rw [word_req hn hr] at h
  injection h with h
  injection h with h _
  omega
 rw [word_no hn hr] at h;split at h
 ·rename_i hb
  obtain ⟨g,e2,hN,-⟩:=num_at hn hb;have hl:n<n+numLen ((bl S).drop n):=by rw [<-hN.he];exact hN.lt
  unfold number at h;split at h
  ·cases h
  split at h
  ·cases h
  split at h
  ·split at h<;>(injection h with h;injection h with h _;omega)
  ·injection h with h;injection h with h _;omega
 split at h
 ·rename_i hb
  have ha:alnum S[n]=true:=by
   unfold letter at hb;unfold alnum;rw [hb];rfl
  have hs:=span_at (p:=alnum) hn;rw [ha,if_pos rfl] at hs;unfold name at h;dsimp only at h;split at h
  ·split at h
   ·injection h with h;injection h with h _;omega
   split at h
   ·injection h with h;injection h with h _;omega
   cases h
  ·split at h
   ·cases h
   injection h with h;injection h with h _;omega
 ·unfold mark at h
  have hl:1<=markLen ((bl S).drop n):=by unfold markLen;omega
  repeat' split at h
  all_goals first
   |cases h;done
   |(injection h with h;injection h with h _;omega)
theorem word_calls {B:Nat} {w:World} {cb mb:Nat} {S:ByteArray} {n:Nat} {ws:List W} (h:CS B w cb mb S n ws) (hn:n<S.size):
 Calls Tryz.prog 55 #[.pointer (some ⟨cb,0,none⟩)] w (PC B cb mb S w (word ((bl S).drop n) n ws)):=by
 obtain ⟨R0,hR0⟩:∃ R0,word ((bl S).drop n) n ws=R0:=⟨_,rfl⟩;rw [hR0];have HR:=hid hR0;have H:=hid h;have hsz:=h.sz;have HSz:=hid (And.intro hn hsz);have hn0:(0:Int)<=(n:Int):=qj _;have hn1:(n:Int)<(S.size:Int):=Int.ofNat_lt.2 hn;obtain ⟨c0,c1,c3,cf,clt,hcb⟩:=h.cells;clear h hR0;go_enter Tryz.func55,Tryz.ntmps55
 go_upto_region 1 with fail
 go_quiet (fail);generalize hWq:World.drewN w _=w1;have hbq:Below w.heap.size w w1:=hWq▸below_drewN (qb _ _) _;have HC1:=hid (H.later hbq);have HB1:=hid (show Below B w w1 from hbq.mono H.hb);clear hbq hWq c0 c1 c3 cf clt hcb;obtain ⟨c0,c1,c3,cf,clt,hcb⟩:=HC1.cells;obtain ⟨rq,hrq⟩:∃ rq:Bool,(rq=true ↔ ReqAt S n hn):=⟨@decide (ReqAt S n hn) (Classical.propDecidable _),by simp⟩;have HRq:=hid hrq;clear hrq;go_upto_region 2 with fail
 go_cut [15] from 6 (fun v wq=>v=.bool rq/\Below w1.heap.size w1 wq)
 case first=>
  by_cases h41:S[n]=41
  ·have t41:((S[n].toNat:Int)==41)=true:=by rw [h41];rfl
   by_cases hz:n=0
   ·have z0:((n:Int)==0)=true:=by rw [hz];rfl
    by_cases h1:1<S.size
    ·have g1:(1:Int)<(S.size:Int):=Int.ofNat_lt.2 h1
     cases hs:small S[1] with
     |true=>
      have hrt:rq=true:=HRq.out.2 ⟨h41,hz,h1,by unfold letter;rw [hs];rfl⟩;subst hrt;clear h41 hz;go_wp2_with (first
       |(go_at_call 81;refine (small_is hs _).mono ?_;rintro e w3 ⟨rfl,hb⟩;have HB3:=hid (hb);have c0:w3.cell? ⟨cb,0,none⟩=some (.string S):=(cell_of_heap (hb.block _ (qc _ _ c0))).trans c0;clear hb))
      go_meet
      case rel=>exact ⟨rfl,HB3.out⟩
     |false=>
      cases hc:capital S[1] with
      |true=>
       have hrt:rq=true:=HRq.out.2 ⟨h41,hz,h1,by unfold letter;rw [hs,hc];rfl⟩;subst hrt;clear h41 hz;go_wp2_with (first
        |(go_at_call 81;refine (small_is hs _).mono ?_;rintro e w3 ⟨rfl,hb⟩;have HB3:=hid (hb);have c0:w3.cell? ⟨cb,0,none⟩=some (.string S):=(cell_of_heap (hb.block _ (qc _ _ c0))).trans c0;clear hb)
        |(go_at_call 82;refine (capital_is hc _).mono ?_;rintro e w4 ⟨rfl,hb⟩;have HB4:=hid (HB3.trans (hb.mono HB3.size));clear hb))
       go_meet
       case rel=>exact ⟨rfl,HB4.out⟩
      |false=>
       have hrt:rq=false:=Bool.eq_false_iff.2 (fun e=>by
        obtain ⟨-,-,h2,h3⟩:=HRq.out.1 e;unfold letter at h3;rw [hs,hc] at h3;cases h3)
       subst hrt;clear h41 hz;go_wp2_with (first
        |(go_at_call 81;refine (small_is hs _).mono ?_;rintro e w3 ⟨rfl,hb⟩;have HB3:=hid (hb);have c0:w3.cell? ⟨cb,0,none⟩=some (.string S):=(cell_of_heap (hb.block _ (qc _ _ c0))).trans c0;clear hb)
        |(go_at_call 82;refine (capital_is hc _).mono ?_;rintro e w4 ⟨rfl,hb⟩;have HB4:=hid (HB3.trans (hb.mono HB3.size));clear hb))
       go_meet
       case rel=>exact ⟨rfl,HB4.out⟩
    ·have g1:¬(1:Int)<(S.size:Int):=fun h=>h1 (Int.ofNat_lt.1 h)
     have hrt:rq=false:=Bool.eq_false_iff.2 (fun e=>by
      obtain ⟨-,-,h2,-⟩:=HRq.out.1 e;exact h1 h2)
     subst hrt;clear h41 hz;go_wp2_with fail
     go_meet
     case rel=>exact ⟨rfl,qb _ _⟩
   ·have z0:((n:Int)==0)=false:=by simp;omega
    have hrt:rq=false:=Bool.eq_false_iff.2 (fun e=>by
     obtain ⟨-,h2,-⟩:=HRq.out.1 e;exact hz h2)
    subst hrt;clear h41 hz;go_wp2_with fail
    go_meet
    case rel=>exact ⟨rfl,qb _ _⟩
  ·have t41:((S[n].toNat:Int)==41)=false:=u8_ne h41
   have hrt:rq=false:=Bool.eq_false_iff.2 (fun e=>h41 (HRq.out.1 e).1);subst hrt;clear h41;go_wp2_with fail
   go_meet
   case rel=>exact ⟨rfl,qb _ _⟩
 case rest=>
 obtain ⟨rfl,hb2⟩:=hcut;have HC2:=hid (HC1.later hb2);have HB2:=hid (show Below B w _ from HB1.trans (hb2.mono HC1.hb));clear hb2 c0 c1 c3 cf clt hcb;generalize wc=w2 at HC2 HB2 ⊢;obtain ⟨c0,c1,c3,cf,clt,hcb⟩:=HC2.cells;cases rq with
 |true=>
  have hreq:=HRq.out.1 rfl;have hz:=hreq.2.1;subst hz;have HEq:=hid (HR.symm.trans (word_req hn hreq));obtain ⟨e2,he2⟩:∃ e2,e2=1+span letter ((bl S).drop 1):=⟨_,rfl⟩;rw [<-he2] at HEq;have HE:=hid (show 0<e2/\e2<=S.size from by
   have h1:=span_le letter ((bl S).drop 1);rw [List.length_drop,bl_len] at h1;omega)
  have HS0:=hid he2.symm;clear he2 hreq c1
  go_upto_block 1 with fail
  go_cut [5] from 6 (fun v wq=>v=.int .i64 (e2:Int)/\Below w2.heap.size w2 wq)
  case first=>
   go_wp2_with fail
   go_loopw [5] (fun i wr=>∃ k:Nat,k<=S.size/\i=.int .i64 k/\Below w2.heap.size w2 wr/\Hid (k+span letter ((bl S).drop k)=e2)) (fun i _=>S.size-(intOf i).toNat)
   case atStart=>exact ⟨1,HSz.out.1,rfl,qb _ _,HS0⟩
   case round=>
    obtain ⟨wk,hwk⟩:∃ wk,wk=wr:=⟨_,rfl⟩;subst hwk;obtain ⟨k,hk,rfl,hbk,hsp⟩:=hrel;have c0:wk.cell? ⟨cb,0,none⟩=some (.string S):=(cell_of_heap (hbk.block _ HC2.cells.2.2.2.2.1)).trans HC2.cells.1;have HBk:=hid hbk;have k0:(0:Int)<=(k:Int):=qj _;clear hbk;by_cases hlt:k<S.size
    ·have k1:(k:Int)<(S.size:Int):=Int.ofNat_lt.2 hlt
     have hw:wrap64 ((k:Int)+1)=(k:Int)+1:=wrap_succ (qi hk hsz);have hle:letter S[k]=true->k+1+span letter ((bl S).drop (k+1))=e2:=fun ha=>by
      have:=hsp.out;rw [span_at hlt,ha,if_pos rfl] at this;omega
     cases ha:small S[k] with
     |true=>
      have HSp:=hid (hle (by unfold letter;rw [ha];rfl));clear hle;go_wp2_with (first
       |(go_at_call 81;refine (small_is ha _).mono ?_;rintro e wS ⟨rfl,hb⟩;have HBs:=hid (HBk.trans (hb.mono HBk.size));have c0:wS.cell? ⟨cb,0,none⟩=some (.string S):=(cell_of_heap (hb.block _ (qc _ _ c0))).trans c0;clear hb))
      go_roundw
      case rel=>exact ⟨k+1,hlt,by go_num,HBs.out,HSp⟩
      case measure=>exact sp_meas (by first|exact Int.lt_succ _|(rw [hw];exact Int.lt_succ _)) k0 k1
     |false=>
      cases hc:capital S[k] with
      |true=>
       have HSp:=hid (hle (by unfold letter;rw [ha,hc];rfl));clear hle;go_wp2_with (first
        |(go_at_call 81;refine (small_is ha _).mono ?_;rintro e wS ⟨rfl,hb⟩;have HBs:=hid (HBk.trans (hb.mono HBk.size));have c0:wS.cell? ⟨cb,0,none⟩=some (.string S):=(cell_of_heap (hb.block _ (qc _ _ c0))).trans c0;clear hb)
        |(go_at_call 82;refine (capital_is hc _).mono ?_;rintro e wC ⟨rfl,hb⟩;have HBc:=hid (HBs.trans (hb.mono HBs.size));have c0:wC.cell? ⟨cb,0,none⟩=some (.string S):=(cell_of_heap (hb.block _ (qc _ _ c0))).trans c0;clear hb))
       go_roundw
       case rel=>exact ⟨k+1,hlt,by go_num,HBc.out,HSp⟩
       case measure=>exact sp_meas (by first|exact Int.lt_succ _|(rw [hw];exact Int.lt_succ _)) k0 k1
      |false=>
       have hke:k=e2:=by
        have:=hsp.out;rw [span_at hlt,if_neg (by unfold letter;rw [ha,hc];simp)] at this;omega
       subst hke;clear hle;go_wp2_with (first
        |(go_at_call 81;refine (small_is ha _).mono ?_;rintro e wS ⟨rfl,hb⟩;have HBs:=hid (HBk.trans (hb.mono HBk.size));have c0:wS.cell? ⟨cb,0,none⟩=some (.string S):=(cell_of_heap (hb.block _ (qc _ _ c0))).trans c0;clear hb)
        |(go_at_call 82;refine (capital_is hc _).mono ?_;rintro e wC ⟨rfl,hb⟩;have HBc:=hid (HBs.trans (hb.mono HBs.size));have c0:wC.cell? ⟨cb,0,none⟩=some (.string S):=(cell_of_heap (hb.block _ (qc _ _ c0))).trans c0;clear hb))
       go_meet
       case rel=>exact ⟨rfl,HBc.out⟩
    ·have hke:k=e2:=by
      have:=hsp.out;rw [span_end (by omega)] at this;omega
     subst hke;have k1:¬(k:Int)<(S.size:Int):=fun h=>hlt (Int.ofNat_lt.1 h);go_wp2_with fail
     go_meet
     case rel=>exact ⟨rfl,HBk.out⟩
  case rest=>
  obtain ⟨rfl,hb3⟩:=hcut;have HC3:=hid (HC2.later hb3);have HB3:=hid (show Below B w _ from HB2.trans (hb3.mono HC2.hb));clear hb3 c0 c3 cf clt hcb;generalize wc=w3 at HC3 HB3 ⊢;go_wp2_with (go_at_call 83;refine (put_at HC3.out 7 e2 HE.out.1 HE.out.2 rfl).mono ?_;rintro e w9 ⟨rfl,hcs,hb⟩;have HC9:=hid hcs;have HB9:=hid (show Below B w w9 from HB3.trans hb);clear hcs hb)
  all_goals
   refine bodyPost_ret (v:=.tuple #[.int .i64 0,.int .i64 0]) (by simp [results,Tryz.results55,go_sem]) rfl ?_;rw [HEq.out];exact ⟨rfl,HC9.out,HB9.out⟩
 |false=>
  have hw:=word_no (ws:=ws) hn (fun e=>Bool.false_ne_true (HRq.out.2 e));rw [HR.out] at hw;clear c0 c1 c3 cf clt hcb;by_cases h95:S[n]=95
  ·have t95:((S[n].toNat:Int)==95)=true:=by rw [h95];rfl
   rw [if_pos (.inl h95)] at hw;have HCall:=hid (number_is hw.symm HC2.out hn (.inl h95));clear hw h95;cases R0 with
   |ok x=>
    obtain ⟨m,ws2⟩:=x;go_wp2_with (first
     |(go_at_call 85;refine (HCall.out).mono ?_;intro e w9 hp;obtain ⟨rfl,hcs,hb⟩:=hp.good;have HC9:=hid hcs;have HB9:=hid (show Below B w w9 from HB2.trans hb);clear hcs hb))
    all_goals
     refine bodyPost_ret (v:=.tuple #[.int .i64 0,.int .i64 0]) (by simp [results,Tryz.results55,go_sem]) rfl ?_;exact ⟨rfl,HC9.out,HB9.out⟩
   |bad c p=>
    go_wp2_with (first
     |(go_at_call 85;refine (HCall.out).mono ?_;intro e w9 hp;obtain ⟨rfl,hb⟩:=hp.wrong;have HB9:=hid (show Below B w w9 from HB2.trans hb);clear hb))
    all_goals
     refine bodyPost_ret (v:=.tuple #[.int .i64 p,.int .i64 c]) (by simp [results,Tryz.results55,go_sem]) rfl ?_;exact ⟨rfl,HB9.out⟩
  have t95:((S[n].toNat:Int)==95)=false:=u8_ne h95;cases hd:digit S[n] with
  |true=>
   rw [if_pos (.inr hd)] at hw;have HCall:=hid (fun W (hc:CS B W cb mb S n ws)=>number_is hw.symm hc hn (.inr hd));clear hw h95;cases R0 with
   |ok x=>
    obtain ⟨m,ws2⟩:=x;go_wp2_with (first
     |(go_at_call 84;refine (digit_is hd _).mono ?_;rintro e w3 ⟨rfl,hb⟩;have HC3:=hid (HC2.later hb);have HB3:=hid (show Below B w w3 from HB2.trans (hb.mono HC2.hb));clear hb)
     |(go_at_call 85;refine ((HCall.out _ HC3.out)).mono ?_;intro e w9 hp;obtain ⟨rfl,hcs,hb⟩:=hp.good;have HC9:=hid hcs;have HB9:=hid (show Below B w w9 from HB3.trans hb);clear hcs hb))
    all_goals
     refine bodyPost_ret (v:=.tuple #[.int .i64 0,.int .i64 0]) (by simp [results,Tryz.results55,go_sem]) rfl ?_;exact ⟨rfl,HC9.out,HB9.out⟩
   |bad c p=>
    go_wp2_with (first
     |(go_at_call 84;refine (digit_is hd _).mono ?_;rintro e w3 ⟨rfl,hb⟩;have HC3:=hid (HC2.later hb);have HB3:=hid (show Below B w w3 from HB2.trans (hb.mono HC2.hb));clear hb)
     |(go_at_call 85;refine ((HCall.out _ HC3.out)).mono ?_;intro e w9 hp;obtain ⟨rfl,hb⟩:=hp.wrong;have HB9:=hid (show Below B w w9 from HB3.trans hb);clear hb))
    all_goals
     refine bodyPost_ret (v:=.tuple #[.int .i64 p,.int .i64 c]) (by simp [results,Tryz.results55,go_sem]) rfl ?_;exact ⟨rfl,HB9.out⟩
  |false=>
  rw [if_neg (fun h=>h.elim h95 (fun h=>by rw [hd] at h;cases h))] at hw;clear h95;cases hs:small S[n] with
  |true=>
   rw [if_pos (by unfold letter;rw [hs];rfl)] at hw;have HCall:=hid (fun W (hc:CS B W cb mb S n ws)=>name_is hc hn hw.symm (by unfold alnum;rw [hs];rfl));clear hw;cases R0 with
   |ok x=>
    obtain ⟨m,ws2⟩:=x;go_wp2_with (first
     |(go_at_call 84;refine (digit_is hd _).mono ?_;rintro e w3 ⟨rfl,hb⟩;have HC3:=hid (HC2.later hb);have HB3:=hid (show Below B w w3 from HB2.trans (hb.mono HC2.hb));clear hb)
     |(go_at_call 81;refine (small_is hs _).mono ?_;rintro e w4 ⟨rfl,hb⟩;have HC4:=hid (HC3.later hb);have HB4:=hid (show Below B w w4 from HB3.trans (hb.mono HC3.hb));clear hb)
     |(go_at_call 86;refine ((HCall.out _ HC4.out)).mono ?_;intro e w9 hp;obtain ⟨rfl,hcs,hb⟩:=hp.good;have HC9:=hid hcs;have HB9:=hid (show Below B w w9 from HB4.trans hb);clear hcs hb))
    all_goals
     refine bodyPost_ret (v:=.tuple #[.int .i64 0,.int .i64 0]) (by simp [results,Tryz.results55,go_sem]) rfl ?_;exact ⟨rfl,HC9.out,HB9.out⟩
   |bad c p=>
    go_wp2_with (first
     |(go_at_call 84;refine (digit_is hd _).mono ?_;rintro e w3 ⟨rfl,hb⟩;have HC3:=hid (HC2.later hb);have HB3:=hid (show Below B w w3 from HB2.trans (hb.mono HC2.hb));clear hb)
     |(go_at_call 81;refine (small_is hs _).mono ?_;rintro e w4 ⟨rfl,hb⟩;have HC4:=hid (HC3.later hb);have HB4:=hid (show Below B w w4 from HB3.trans (hb.mono HC3.hb));clear hb)
     |(go_at_call 86;refine ((HCall.out _ HC4.out)).mono ?_;intro e w9 hp;obtain ⟨rfl,hb⟩:=hp.wrong;have HB9:=hid (show Below B w w9 from HB4.trans hb);clear hb))
    all_goals
     refine bodyPost_ret (v:=.tuple #[.int .i64 p,.int .i64 c]) (by simp [results,Tryz.results55,go_sem]) rfl ?_;exact ⟨rfl,HB9.out⟩
  |false=>
  cases hc:capital S[n] with
  |true=>
   rw [if_pos (by unfold letter;rw [hs,hc];rfl)] at hw;have HCall:=hid (fun W (hk:CS B W cb mb S n ws)=>name_is hk hn hw.symm (by unfold alnum;rw [hs,hc];rfl));clear hw;cases R0 with
   |ok x=>
    obtain ⟨m,ws2⟩:=x;go_wp2_with (first
     |(go_at_call 84;refine (digit_is hd _).mono ?_;rintro e w3 ⟨rfl,hb⟩;have HC3:=hid (HC2.later hb);have HB3:=hid (show Below B w w3 from HB2.trans (hb.mono HC2.hb));clear hb)
     |(go_at_call 81;refine (small_is hs _).mono ?_;rintro e w4 ⟨rfl,hb⟩;have HC4:=hid (HC3.later hb);have HB4:=hid (show Below B w w4 from HB3.trans (hb.mono HC3.hb));clear hb)
     |(go_at_call 82;refine (capital_is hc _).mono ?_;rintro e w5 ⟨rfl,hb⟩;have HC5:=hid (HC4.later hb);have HB5:=hid (show Below B w w5 from HB4.trans (hb.mono HC4.hb));clear hb)
     |(go_at_call 86;refine ((HCall.out _ HC5.out)).mono ?_;intro e w9 hp;obtain ⟨rfl,hcs,hb⟩:=hp.good;have HC9:=hid hcs;have HB9:=hid (show Below B w w9 from HB5.trans hb);clear hcs hb))
    all_goals
     refine bodyPost_ret (v:=.tuple #[.int .i64 0,.int .i64 0]) (by simp [results,Tryz.results55,go_sem]) rfl ?_;exact ⟨rfl,HC9.out,HB9.out⟩
   |bad c p=>
    go_wp2_with (first
     |(go_at_call 84;refine (digit_is hd _).mono ?_;rintro e w3 ⟨rfl,hb⟩;have HC3:=hid (HC2.later hb);have HB3:=hid (show Below B w w3 from HB2.trans (hb.mono HC2.hb));clear hb)
     |(go_at_call 81;refine (small_is hs _).mono ?_;rintro e w4 ⟨rfl,hb⟩;have HC4:=hid (HC3.later hb);have HB4:=hid (show Below B w w4 from HB3.trans (hb.mono HC3.hb));clear hb)
     |(go_at_call 82;refine (capital_is hc _).mono ?_;rintro e w5 ⟨rfl,hb⟩;have HC5:=hid (HC4.later hb);have HB5:=hid (show Below B w w5 from HB4.trans (hb.mono HC4.hb));clear hb)
     |(go_at_call 86;refine ((HCall.out _ HC5.out)).mono ?_;intro e w9 hp;obtain ⟨rfl,hb⟩:=hp.wrong;have HB9:=hid (show Below B w w9 from HB5.trans hb);clear hb))
    all_goals
     refine bodyPost_ret (v:=.tuple #[.int .i64 p,.int .i64 c]) (by simp [results,Tryz.results55,go_sem]) rfl ?_;exact ⟨rfl,HB9.out⟩
  |false=>
   rw [if_neg (by unfold letter;rw [hs,hc];simp)] at hw;have HCall:=hid (fun W (hk:CS B W cb mb S n ws)=>mark_is hk hn hw.symm);clear hw;cases R0 with
   |ok x=>
    obtain ⟨m,ws2⟩:=x;go_wp2_with (first
     |(go_at_call 84;refine (digit_is hd _).mono ?_;rintro e w3 ⟨rfl,hb⟩;have HC3:=hid (HC2.later hb);have HB3:=hid (show Below B w w3 from HB2.trans (hb.mono HC2.hb));clear hb)
     |(go_at_call 81;refine (small_is hs _).mono ?_;rintro e w4 ⟨rfl,hb⟩;have HC4:=hid (HC3.later hb);have HB4:=hid (show Below B w w4 from HB3.trans (hb.mono HC3.hb));clear hb)
     |(go_at_call 82;refine (capital_is hc _).mono ?_;rintro e w5 ⟨rfl,hb⟩;have HC5:=hid (HC4.later hb);have HB5:=hid (show Below B w w5 from HB4.trans (hb.mono HC4.hb));clear hb)
     |(go_at_call 87;refine ((HCall.out _ HC5.out)).mono ?_;intro e w9 hp;obtain ⟨rfl,hcs,hb⟩:=hp.good;have HC9:=hid hcs;have HB9:=hid (show Below B w w9 from HB5.trans hb);clear hcs hb))
    all_goals
     refine bodyPost_ret (v:=.tuple #[.int .i64 0,.int .i64 0]) (by simp [results,Tryz.results55,go_sem]) rfl ?_;exact ⟨rfl,HC9.out,HB9.out⟩
   |bad c p=>
    go_wp2_with (first
     |(go_at_call 84;refine (digit_is hd _).mono ?_;rintro e w3 ⟨rfl,hb⟩;have HC3:=hid (HC2.later hb);have HB3:=hid (show Below B w w3 from HB2.trans (hb.mono HC2.hb));clear hb)
     |(go_at_call 81;refine (small_is hs _).mono ?_;rintro e w4 ⟨rfl,hb⟩;have HC4:=hid (HC3.later hb);have HB4:=hid (show Below B w w4 from HB3.trans (hb.mono HC3.hb));clear hb)
     |(go_at_call 82;refine (capital_is hc _).mono ?_;rintro e w5 ⟨rfl,hb⟩;have HC5:=hid (HC4.later hb);have HB5:=hid (show Below B w w5 from HB4.trans (hb.mono HC4.hb));clear hb)
     |(go_at_call 87;refine ((HCall.out _ HC5.out)).mono ?_;intro e w9 hp;obtain ⟨rfl,hb⟩:=hp.wrong;have HB9:=hid (show Below B w w9 from HB5.trans hb);clear hb))
    all_goals
     refine bodyPost_ret (v:=.tuple #[.int .i64 p,.int .i64 c]) (by simp [results,Tryz.results55,go_sem]) rfl ?_;exact ⟨rfl,HB9.out⟩
end Pz
open Go.RowKit Go.WideMaps Go.Maps
namespace Pz
def posOf (b:Nat) (w:World):Nat:=((w.cell? ⟨b,1,none⟩).map fun v=>(intOf v).toNat).getD 0
theorem CS.pos {B:Nat} {w:World} {cb mb:Nat} {S:ByteArray} {n:Nat} {ws:List W} (h:CS B w cb mb S n ws):posOf cb w=n:=by
 unfold posOf;rw [h.cells.2.1];simp [intOf]
theorem CS.blank {B:Nat} {w:World} {cb mb:Nat} {S:ByteArray} {n:Nat} {ws:List W} (h:CS B w cb mb S n ws) (hn:n<S.size) {u:Value} (hu:u=.int .i64 ((n+1:Nat):Int)):CS B (w.setCell ⟨cb,1,none⟩ u) cb mb S (n+1) ws/\Below B w (w.setCell ⟨cb,1,none⟩ u):=by
 obtain ⟨wv,last,rv,vs,k,hc,hf,hk,hl⟩:=h.ex;have hb:Below B w (w.setCell ⟨cb,1,none⟩ u):=(qb B w).setCell (p:=⟨cb,1,none⟩) hc.cb0 u;exact ⟨⟨⟨wv,last,rv,vs,k,hc.place (n+1) hu,hf,hk,by omega⟩,by have:=h.len;omega,h.sz,hn,qi h.hb hb.size,h.vars.kept (hb.block _ h.gb.1) (hb.block _ h.gb.2),h.gb⟩,hb⟩
theorem CS.start {w w1:World} {S:ByteArray} (hS:S.size<=1048576) (hv:Vars w) (hm:w1.ownsMap Tryz.prog 9 Hv w.heap.size 21 (putS (.map []) spM)) (hb:Below w.heap.size w w1):
 CS w.heap.size (w1.alloc (.cells #[.string S,.int .i64 0,.slice none 0 0,.map (some w.heap.size),.int .i64 0,.slice none 0 0] 103)) w1.heap.size w.heap.size S 0 []:=by
 have hb1:=(qb w1.heap.size w1).alloc (qa _) (.cells #[.string S,.int .i64 0,.slice none 0 0,.map (some w.heap.size),.int .i64 0,.slice none 0 0] 103);have hb2:=hb.trans (hb1.mono hb.size);refine ⟨⟨.slice none 0 0,0,.slice none 0 0,[],[],⟨Boxd.new _ _ _,⟨_,_,heap_new _ _⟩,⟨rfl,.inl ⟨rfl,rfl⟩⟩,⟨rfl,.inl ⟨rfl,rfl⟩⟩,ownsMap_keep hm (hb1.block _ hm.lt),hb.size,qa _⟩,rfl,fun v h=>by simp at h,Nat.zero_le _⟩,qa _,hS,Nat.zero_le _,hb2.size,hv.later hb2 (qa _),hv.lt⟩
theorem cut_end {s:List UInt8} {n:Nat} (h:s.length<=n):∀ (f:Nat) (ws:List W),cutF f s n ws=.ok ws
 |0,ws=>rfl
 |f+1,ws=>by
  rw [cutF,List.drop_eq_nil_of_le h]
theorem cut_blank {S:ByteArray} {f n:Nat} {ws:List W} (hn:n<S.size) (h:S[n]=32):cutF (f+1) (bl S) n ws=cutF f (bl S) (n+1) ws:=by
 rw [cutF,bl_drop S n hn];dsimp only;rw [if_pos h]
theorem cut_nb {S:ByteArray} {f n:Nat} {ws:List W} (hn:n<S.size) (h:¬S[n]=32) (h2:starts [78,66,46] ((bl S).drop n)=true):cutF (f+1) (bl S) n ws=.ok ws:=by
 rw [bl_drop S n hn] at h2;rw [cutF,bl_drop S n hn];dsimp only;rw [if_neg h,if_pos h2]
theorem cut_word {S:ByteArray} {f n:Nat} {ws:List W} (hn:n<S.size) (h:¬S[n]=32) (h2:starts [78,66,46] ((bl S).drop n)=false):cutF (f+1) (bl S) n ws=(word ((bl S).drop n) n ws).andThen fun x=>cutF f (bl S) x.1 x.2:=by
 rw [bl_drop S n hn] at h2 ⊢;rw [cutF,bl_drop S n hn];dsimp only;rw [if_neg h,if_neg (by rw [h2];simp)]
theorem word_bad {r:List UInt8} {n:Nat} {ws:List W} {c p:Int} (h:word r n ws=.bad c p):c=30\/c=31:=by
 unfold word number name mark at h
 repeat' split at h
 all_goals first
  |cases h;done
  |(injection h with h1 h2;subst h1;simp;done)
  |skip
 all_goals
  dsimp only at h
  repeat' split at h
  all_goals first
   |cases h;done
   |(injection h with h1 h2;subst h1;simp;done)
theorem word_isbad {B:Nat} {w:World} {cb mb:Nat} {S:ByteArray} {n:Nat} {ws:List W} {r:R (Nat × List W)} (hr:word ((bl S).drop n) n ws=r) (h:CS B w cb mb S n ws) (hn:n<S.size):
 Calls Tryz.prog 55 #[.pointer (some ⟨cb,0,none⟩)] w (PC B cb mb S w r):=hr▸word_calls h hn
def PCut (w:World) (r:R (List W)) (e:Ending) (w':World):Prop:=
 match r with
 |.ok ws=>∃ A cap,e=.returned (.tuple #[.slice A ws.length cap,.int .i64 0,.int .i64 0])/\w'.ownsRow w.heap.size 67 3 (.slice A ws.length cap) ws.length (wflat ws)/\Below w.heap.size w w'
 |.bad c p=>e=.returned (.tuple #[.slice none 0 0,.int .i64 p,.int .i64 c])/\Below w.heap.size w w'
theorem PCut.good {w:World} {ws:List W} {e:Ending} {w':World} (h:PCut w (.ok ws) e w'):∃ A cap,e=.returned (.tuple #[.slice A ws.length cap,.int .i64 0,.int .i64 0])/\w'.ownsRow w.heap.size 67 3 (.slice A ws.length cap) ws.length (wflat ws)/\Below w.heap.size w w':=h
theorem PCut.wrong {w:World} {c p:Int} {e:Ending} {w':World} (h:PCut w (.bad c p) e w'):e=.returned (.tuple #[.slice none 0 0,.int .i64 p,.int .i64 c])/\Below w.heap.size w w':=h
theorem prefix_nb {S:ByteArray} {n:Nat} {b:Bool} (h:starts [78,66,46] ((bl S).drop n)=b) (w:World):Calls Tryz.prog 54 #[.string (S.extract n S.size),.string ⟨#[78,66,46]⟩] w fun e w'=>e=.returned (.bool b)/\w'=w:=prefix_is h w
theorem cut_calls (S:ByteArray) (w:World) (hv:Vars w):Calls Tryz.prog 25 #[.string S] w (PCut w (cut (bl S))):=by
 by_cases hbig:1048576<S.size
 ·have hb:(1048576:Int)<(S.size:Int):=Int.ofNat_lt.2 hbig
  rw [show cut (bl S)=.bad 2 0 from by unfold cut;rw [if_pos (by rw [bl_len];exact hbig)]];go_enter Tryz.func25,Tryz.ntmps25
  go_wp2_with fail
  refine bodyPost_ret (v:=.tuple #[.slice none 0 0,.int .i64 0,.int .i64 2]) (by simp [results,Tryz.results25,go_sem]) rfl ?_;exact ⟨rfl,qb _ _⟩
 have hb:¬(1048576:Int)<(S.size:Int):=fun h=>hbig (Int.ofNat_lt.1 h);have hS:S.size<=1048576:=Nat.le_of_not_lt hbig;obtain ⟨R0,hR0⟩:∃ R0,cut (bl S)=R0:=⟨_,rfl⟩;rw [hR0];unfold cut at hR0;rw [if_neg (by rw [bl_len];exact hbig),bl_len] at hR0;have HR:=hid hR0;have HV:=hid hv;have HSz:=hid hS;clear hR0 hbig hv;go_enter Tryz.func25,Tryz.ntmps25
 go_upto_block 0 with (go_at_call 53;refine (spelled_calls _).mono ?_;rintro e w1 ⟨rfl,hm,hb1⟩;have HM:=hid hm;have HB1:=hid hb1;clear hm hb1)
 generalize hWb:World.alloc w1 _=w2;have hst:CS w.heap.size w2 w1.heap.size w.heap.size S 0 []:=hWb▸CS.start HSz.out HV.out HM.out HB1.out;have HC2:=hid hst;have HB2:=hid (show Below w.heap.size w w2 from hWb▸HB1.trans (((qb w1.heap.size w1).alloc (qa _) _).mono HB1.size));clear hWb hst;go_cut [] from 8 (fun wq=>∃ (n:Nat) (ws:List W),CS w.heap.size wq w1.heap.size w.heap.size S n ws/\Below w.heap.size w wq/\R0=.ok ws)
 case first=>
  go_wp2_with fail
  go_loopw [] (fun wr=>∃ (n:Nat) (ws:List W) (f:Nat),CS w.heap.size wr w1.heap.size w.heap.size S n ws/\Below w.heap.size w wr/\cutF f (bl S) n ws=R0/\S.size-n<f) (fun wr=>S.size-posOf w1.heap.size wr)
  case atStart=>exact ⟨0,[],S.size+1,HC2.out,HB2.out,HR.out,Nat.lt_succ_of_le (Nat.sub_le _ _)⟩
  case round=>
   obtain ⟨wk,hwk⟩:∃ wk,wk=wr:=⟨_,rfl⟩;subst hwk;obtain ⟨n,ws,f,hcs,hbk,hcut,hf⟩:=hrel;have HC:=hid hcs;have HB:=hid hbk;have hsz:=hcs.sz;obtain ⟨c0,c1,c3,cf,clt,hcb⟩:=hcs.cells;have k0:(0:Int)<=(n:Int):=qj _;have k2:(n:Int)<=(S.size:Int):=Int.ofNat_le.2 hcs.le;clear hcs hbk;by_cases hn:n<S.size
   ·have k1:(n:Int)<(S.size:Int):=Int.ofNat_lt.2 hn
    have hw:wrap64 ((n:Int)+1)=(n:Int)+1:=wrap_succ (qi (Nat.le_of_lt hn) hsz);obtain ⟨f,rfl⟩:∃ g,f=g+1:=⟨f-1,by omega⟩;have HF:=hid hf;clear hf;by_cases h32:S[n]=32
    ·have t32:((S[n].toNat:Int)==32)=true:=by rw [h32];rfl
     rw [cut_blank hn h32] at hcut;have HCut:=hid hcut;clear hcut h32
     (try go_wp2_with fail)
     generalize hW5:World.setCell wk _ _=w5;have hfin:=HC.blank hn (u:=.int .i64 ((n:Int)+1)) rfl;rw [hW5] at hfin
     go_roundw
     case rel=>exact ⟨n+1,ws,f,hfin.1,HB.trans hfin.2,HCut.out,by have:=HF.out;omega⟩
     case measure=>rw [hfin.1.pos,HC.pos];omega
    ·have t32:((S[n].toNat:Int)==32)=false:=u8_ne h32
     cases hst:starts [78,66,46] ((bl S).drop n) with
     |true=>
      rw [cut_nb hn h32 hst] at hcut;have HCut:=hid hcut;have HPf1:=hid (fun W=>prefix_nb hst W);clear hcut h32 hst;go_wp2_with (go_at_call 54;refine (HPf1.out _).mono ?_;rintro e w' ⟨rfl,rfl⟩)
      go_meet
      case rel=>exact ⟨n,ws,HC.out,HB.out,HCut.symm⟩
     |false=>
      rw [cut_word hn h32 hst] at hcut;have HPf1:=hid (fun W=>prefix_nb hst W);obtain ⟨R1,hR1⟩:∃ R1,word ((bl S).drop n) n ws=R1:=⟨_,rfl⟩;rw [hR1] at hcut;have HCall:=hid (word_isbad hR1 HC.out hn);clear h32 hst;cases R1 with
      |ok x=>
       obtain ⟨m,ws2⟩:=x;have HCut:=hid (show cutF f (bl S) m ws2=R0 from hcut);have HLt:=hid (word_lt hn hR1);clear hcut hR1;go_wp2_with (first
        |(go_at_call 54;refine (HPf1.out _).mono ?_;rintro e w' ⟨rfl,rfl⟩)
        |(go_at_call 55;refine HCall.mono ?_;intro e w9 hp;obtain ⟨rfl,hcs,hb9⟩:=hp.good;have HC9:=hid hcs;have HB9:=hid (HB.trans hb9);clear hcs hb9))
       go_roundw
       case rel=>exact ⟨m,ws2,f,HC9.out,HB9.out,HCut.out,by have:=HF.out;have:=HLt.out;omega⟩
       case measure=>rw [HC9.pos,HC.pos];have:=HLt.out;omega
      |bad c p=>
       have HCut:=hid (show R.bad c p=R0 from hcut);have hc0:¬c=0:=by
        rcases word_bad hR1 with rfl|rfl<;>decide
       have t0:(c !=0)=true:=by simp [hc0]
       clear hcut hR1;go_wp2_with (first
        |(go_at_call 54;refine (HPf1.out _).mono ?_;rintro e w' ⟨rfl,rfl⟩)
        |(go_at_call 55;refine HCall.mono ?_;intro e w9 hp;obtain ⟨rfl,hb9⟩:=hp.wrong;have HB9:=hid (HB.trans hb9);clear hb9))
       refine bodyPost_ret (v:=.tuple #[.slice none 0 0,.int .i64 p,.int .i64 c]) (by simp [results,Tryz.results25,go_sem]) rfl ?_;rw [<-HCut.out];exact ⟨rfl,HB9.out⟩
   ·have k1:¬(n:Int)<(S.size:Int):=fun h=>hn (Int.ofNat_lt.1 h)
    rw [cut_end (by rw [bl_len];omega)] at hcut;have HCut:=hid hcut;clear hcut;go_wp2_with fail
    go_meet
    case rel=>exact ⟨n,ws,HC.out,HB.out,HCut.symm⟩
 case rest=>
 obtain ⟨n,ws,hcs,hb3,hr⟩:=hcut;have HC3:=hid hcs;have HB3:=hid hb3;have HEq:=hid hr;clear hcs hb3 hr;generalize wc=w3 at HC3 HB3 ⊢;obtain ⟨wv,last,rv,vs,k,hm,hf,hkn,hkl⟩:=HC3.ex;have HCl:=hid (close_calls hm (by have h1:=HC3.len;have h2:=HC3.le;rw [<-hf,fixW_len] at h1;omega) hkn);have HF:=hid hf;clear hm hf hkn hkl;go_upto_region 12 with (go_at_call 56;refine HCl.mono ?_;rintro e w4 ⟨rfl,hcm,hb⟩;have HC4:=hid hcm;have HB4:=hid (HB3.trans hb);clear hcm hb)
 rw [HF.out] at HC4;obtain ⟨A,cap,rfl⟩:=row_forms HC4.words;obtain ⟨c0,c1,c2,c3,c4,c5,cf,clt⟩:=HC4.cells;go_wp2_with fail
 refine bodyPost_ret (v:=.tuple #[.slice A ws.length cap,.int .i64 0,.int .i64 0]) (by simp [results,Tryz.results25,go_sem]) rfl ?_;rw [HEq.out];exact ⟨A,cap,rfl,HC4.words,HB4.out⟩
end Pz
end Go.Proofs.YtimcmghhbdfjfaaGreatDoor
