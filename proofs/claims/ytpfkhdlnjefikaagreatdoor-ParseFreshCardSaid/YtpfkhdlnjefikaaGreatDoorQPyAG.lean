/- Package word: mark. Package word: word. Package word: Cut. -/
import Derived.Test.YtpfkhdlnjefikaaGreatDoorQPyH
set_option linter.unusedVariables false
set_option linter.unusedSimpArgs false
namespace Go.Proofs.YtpfkhdlnjefikaaGreatDoor
open Go.RowKit Go.WideMaps Go.Maps
namespace Pz
def mkL:List (List UInt8):=[[123,123,41,109],[123,123,41,100],[125,125]]
theorem CS.map {B:Nat} {w:World} {cb mb:Nat} {S:ByteArray} {n:Nat} {ws:List W} (h:CS B w cb mb S n ws):w.ownsMap Tryz.prog 9 Hv mb 21 (putS (.map []) spM):=by
 obtain ⟨wv,last,rv,vs,k,h1,-⟩:=h.ex
 exact h1.map
theorem tail_bytes (S:ByteArray) (n:Nat):bytes ((bl S).drop n)=S.extract n S.size:=by
 rw [<-bytes_extract S n S.size,List.take_of_length_le (by rw [List.length_drop,bl_len];exact Nat.le_refl _)]
theorem prefix_tail (S:ByteArray) (n:Nat) (p:List UInt8) (w:World):Calls Tryz.prog 51 #[.string (S.extract n S.size),.string (bytes p)] w fun e w'=>e=.returned (.bool (starts p ((bl S).drop n)))/\w'=w:=by
 rw [<-tail_bytes]
 exact prefix_calls _ p w
theorem starts_seg {S:ByteArray} {n:Nat} {p:List UInt8} (h:starts p ((bl S).drop n)=true):n+p.length<=S.size\/p=[]:=by
 have:=starts_len h
 rw [List.length_drop,bl_len] at this
 rcases p with _|⟨c,p⟩
 ·exact .inr rfl
 ·exact .inl (by simp at this ⊢;omega)
theorem starts_is {S:ByteArray} {n:Nat} {p:List UInt8} (h:starts p ((bl S).drop n)=true):seg S n (n+p.length)=p:=by
 have h:((bl S).drop n).take p.length=p:=by simpa [starts] using h
 rw [<-take_seg,h]
theorem prefix_is {S:ByteArray} {n:Nat} {p:List UInt8} {b:Bool} (h:starts p ((bl S).drop n)=b) (w:World):Calls Tryz.prog 51 #[.string (S.extract n S.size),.string (bytes p)] w fun e w'=>e=.returned (.bool b)/\w'=w:=h▸prefix_tail S n p w
theorem mkL_len:∀ (j:Nat) (p:List UInt8),mkL[j]? =some p->1<=p.length/\p.length<=4:=by
 intro j p h
 have hj:j<3:=(List.getElem?_eq_some_iff.1 h).1
 match j,hj,h with
 |0,_,h=>cases h;decide
 |1,_,h=>cases h;decide
 |2,_,h=>cases h;decide
def mk58 (c:UInt8):Bool:=c==46||c==58
theorem mark_len (S:ByteArray) (n:Nat):n+1+span mk58 ((bl S).drop (n+1))=n+markLen ((bl S).drop n):=by
 unfold markLen
 rw [List.drop_drop]
 show n+1+span (fun c=>c==46||c==58) _=_
 omega
def markR (b:UInt8) (S:ByteArray) (n:Nat) (ws:List W):R (Nat × List W):=
 if b=40\/b=41\/b=59 then .ok (n+1,ws++[⟨7,[b],n⟩])
 else if b.toNat<33\/126<b.toNat\/starts [123,123] ((bl S).drop n)=true then .bad 31 n
 else if kindText (((bl S).drop n).take (markLen ((bl S).drop n)))=0 then .bad 31 n else .ok (n+markLen ((bl S).drop n),ws++[⟨kindText (((bl S).drop n).take (markLen ((bl S).drop n))),((bl S).drop n).take (markLen ((bl S).drop n)),n⟩])
theorem mark_cases (b:UInt8) (S:ByteArray) (n:Nat) (ws:List W):(∀ (K:Nat) (p:List UInt8),mkL[K]? =some p->(∀ (q:Nat) (p':List UInt8),q<K->mkL[q]? =some p'->starts p' ((bl S).drop n)=false)->starts p ((bl S).drop n)=true->mark b ((bl S).drop n) n ws=.ok (n+p.length,ws++[⟨7,p,n⟩]))/\((∀ (q:Nat) (p':List UInt8),q<3->mkL[q]? =some p'->starts p' ((bl S).drop n)=false)->mark b ((bl S).drop n) n ws=markR b S n ws):=by
 refine ⟨fun K p hp hq hs=>?_,fun hq=>?_⟩
 ·have hK:K<3:=(List.getElem?_eq_some_iff.1 hp).1
  unfold mark
  match K,hK,hp,hq with
  |0,_,hp,hq=>cases hp;rw [if_pos hs];rfl
  |1,_,hp,hq=>
   cases hp
   rw [if_neg (by rw [hq 0 _ (by decide) rfl];simp),if_pos hs];rfl
  |2,_,hp,hq=>
   cases hp
   rw [if_neg (by rw [hq 0 _ (by decide) rfl];simp),if_neg (by rw [hq 1 _ (by decide) rfl];simp),if_pos hs];rfl
 ·unfold mark markR
  rw [if_neg (by rw [hq 0 _ (by decide) rfl];simp),if_neg (by rw [hq 1 _ (by decide) rfl];simp),if_neg (by rw [hq 2 _ (by decide) rfl];simp)]
set_option maxRecDepth 100000 in
set_option maxHeartbeats 4000000 in
theorem mark_calls {B:Nat} {w:World} {cb mb:Nat} {S:ByteArray} {n:Nat} {ws:List W} (h:CS B w cb mb S n ws) (hn:n<S.size):
 Calls Tryz.prog 82 #[.pointer (some ⟨cb,0,none⟩),.int .u8 (S[n].toNat:Int)] w (PC B cb mb S w (mark S[n] ((bl S).drop n) n ws)):=by
 have HMk:=hid (mark_cases S[n] S n ws)
 obtain ⟨R0,hR0⟩:∃ R0,mark S[n] ((bl S).drop n) n ws=R0:=⟨_,rfl⟩
 rw [hR0] at HMk ⊢
 clear hR0
 have hsz:=h.sz
 have H:=hid h
 have hn0:(0:Int)<=(n:Int):=Int.natCast_nonneg _
 have hn1:(n:Int)<(S.size:Int):=Int.ofNat_lt.2 hn
 have hn2:(n:Int)<=(S.size:Int):=Int.ofNat_le.2 (Nat.le_of_lt hn)
 have HPf:=hid (fun p W=>prefix_tail S n p W)
 have HSz:=hid (And.intro hn hsz)
 clear h
 go_enter Tryz.func82,Tryz.ntmps82
 go_upto_region 2 with fail
 generalize hW0:World.alloc w _=w0
 have hl0:∀ (j:Nat) (p:List UInt8),mkL[j]? =some p->w0.cell? ⟨w.heap.size,j,none⟩=some (.string (bytes p)):=fun j p hp=>by
  rw [<-hW0,World.cell?_alloc_at _ _ _ _ rfl]
  have hj:j<3:=(List.getElem?_eq_some_iff.1 hp).1
  match j,hj,hp with
  |0,_,hp=>cases hp;rfl
  |1,_,hp=>cases hp;rfl
  |2,_,hp=>cases hp;rfl
 have HL0:=hid hl0
 have hb0:Below w.heap.size w w0:=hW0▸(Below.refl _ _).alloc (Nat.le_refl _) _
 have HC0:=hid (H.out.later hb0)
 have HB0:=hid (show Below B w w0 from hb0.mono H.out.hb)
 have HG0:=hid (show w.heap.size<w0.heap.size from by rw [<-hW0];simp)
 clear hl0 hb0 hW0
 go_wp2_with fail
 go_loopw [15] (fun i wr=>∃ K:Nat,K<=3/\i=.int .i64 K/\Below w0.heap.size w0 wr/\Hid (∀ (q:Nat) (p':List UInt8),q<K->mkL[q]? =some p'->starts p' ((bl S).drop n)=false)) (fun i _=>3-(intOf i).toNat)
 case atStart=>exact ⟨0,by omega,rfl,Below.refl _ _,hid (fun q p' h=>absurd h (Nat.not_lt_zero q))⟩
 case round=>
  obtain ⟨wl,hwl⟩:∃ wl,wl=wr:=⟨_,rfl⟩
  subst hwl
  obtain ⟨K,hK,rfl,hb,hno⟩:=hrel
  have HNo:=hno
  have HCl:=hid (HC0.out.later hb)
  have HBl:=hid (show Below B w wl from HB0.out.trans (hb.mono HC0.out.hb))
  have HB0l:=hid hb
  obtain ⟨c0,c1,c3,cf,clt,hcb⟩:=HCl.out.cells
  have k0:(0:Int)<=(K:Int):=Int.natCast_nonneg _
  clear hno
  by_cases hlt:K<3
  ·obtain ⟨p,hp⟩:∃ p,mkL[K]? =some p:=⟨_,List.getElem?_eq_getElem (show K<mkL.length from hlt)⟩
   have hc:wl.cell? ⟨w.heap.size,K,none⟩=some (.string (bytes p)):=(cell_of_heap (hb.block _ HG0.out)).trans (HL0.out K p hp)
   have hpl:=mkL_len K p hp
   have hps:(bytes p).size=p.length:=by simp [bytes,ByteArray.size]
   have HP:=hid hp
   have HPl:=hid hpl
   have k1:(K:Int)<3:=by omega
   have hw:wrap64 ((K:Int)+1)=(K:Int)+1:=by unfold wrap64;omega
   have HKl:=hid (show K+1<=3 from hlt)
   clear hp hb
   cases hst:starts p ((bl S).drop n) with
   |true=>
    have HEq:=hid (HMk.out.1 K p HP.out HNo.out hst)
    have HSt:=hid (And.intro (starts_is hst) ((starts_seg hst).resolve_right (fun e=>by rw [e] at hpl;exact absurd hpl.1 (by decide))))
    have HPf1:=hid (fun W=>prefix_is hst W)
    have hwp:wrap64 ((n:Int)+(p.length:Int))=(n:Int)+(p.length:Int):=wrap_add (Nat.le_of_lt HSz.out.1) HSz.out.2 HPl.out.2
    clear hst hpl
    go_upto_region 5 with fail
    go_quiet ((go_at_call 51;exact Calls.quiet_of_same (HPf1.out _)))
    generalize hWq:World.drewN wl _=w2
    have hbq:Below wl.heap.size wl w2:=hWq▸below_drewN (Below.refl _ _) _
    have HC2:=hid (HCl.out.later hbq)
    have HB2:=hid (show Below B w w2 from HBl.out.trans (hbq.mono HCl.out.hb))
    have HBq:=hid hbq
    clear hbq hWq c0 c1 c3 cf clt hcb
    obtain ⟨c0,c1,c3,cf,clt,hcb⟩:=HC2.out.cells
    go_wp2_with (go_at_call 78;refine (put_at HC2.out (7) (n+p.length) (by have:=HPl.out.1;omega) (HSt.out.2) (by first|rfl|omega)).mono ?_;rintro e w9 ⟨rfl,hcs,hb⟩;have HC9:=hid hcs;have HB9:=hid (show Below B w w9 from HB2.out.trans hb);clear hcs hb)
    all_goals
     refine bodyPost_ret (v:=.tuple #[.int .i64 0,.int .i64 0]) (by simp [results,Tryz.results82,go_sem]) rfl ?_
     rw [HEq.out]
     exact ⟨rfl,by have:=HC9.out;rwa [HSt.out.1] at this,HB9.out⟩
   |false=>
    have HPf1:=hid (fun W=>prefix_is hst W)
    have HNx:=hid (show ∀ (q:Nat) (p':List UInt8),q<K+1->mkL[q]? =some p'->starts p' ((bl S).drop n)=false from fun q p' hq hp'=>by
     rcases Nat.lt_or_ge q K with h|h
     ·exact HNo.out q p' h hp'
     ·have:q=K:=Nat.le_antisymm (Nat.lt_succ_iff.1 hq) h
      subst this
      rw [HP.out] at hp'
      cases hp'
      exact hst)
    clear hst hpl
    go_upto_region 5 with fail
    go_quiet ((go_at_call 51;exact Calls.quiet_of_same (HPf1.out _)))
    generalize hWq:World.drewN wl _=w2
    have hbq:Below wl.heap.size wl w2:=hWq▸below_drewN (Below.refl _ _) _
    have HC2:=hid (HCl.out.later hbq)
    have HB2:=hid (show Below B w w2 from HBl.out.trans (hbq.mono HCl.out.hb))
    have HBq:=hid hbq
    clear hbq hWq c0 c1 c3 cf clt hcb
    obtain ⟨c0,c1,c3,cf,clt,hcb⟩:=HC2.out.cells
    (try go_wp2_with fail)
    go_roundw
    case rel=>exact ⟨K+1,HKl.out,by go_num,HB0l.out.trans (HBq.out.mono HB0l.out.size),HNx⟩
    case measure=>exact sp_meas (by first|exact Int.lt_succ _|(rw [hw];exact Int.lt_succ _)) k0 k1
  ·obtain rfl:K=3:=by omega
   have HR:=hid (HMk.out.2 HNo.out)
   clear hK hlt k0 hb
   have hRm:=HR.out
   unfold markR at hRm
   have hw1:wrap64 ((n:Int)+1)=(n:Int)+1:=wrap_succ (Nat.le_trans (Nat.le_of_lt HSz.out.1) HSz.out.2)
   by_cases b40:S[n]=40
   ·have s40:((S[n].toNat:Int)==40)=true:=by rw [b40];rfl
    have HEq:=hid (show R0=.ok (n+1,ws++[⟨7,[S[n]],n⟩]) from by rw [hRm,if_pos (.inl b40)])
    clear hRm b40
    go_wp2_with (go_at_call 78;refine (put_at HCl.out (7) (n+1) (Nat.lt_succ_self n) (hn) (by first|rfl|omega)).mono ?_;rintro e w9 ⟨rfl,hcs,hb⟩;have HC9:=hid hcs;have HB9:=hid (show Below B w w9 from HBl.out.trans hb);clear hcs hb)
    all_goals
     refine bodyPost_ret (v:=.tuple #[.int .i64 0,.int .i64 0]) (by simp [results,Tryz.results82,go_sem]) rfl ?_
     rw [HEq.out]
     exact ⟨rfl,by have:=HC9.out;rwa [seg_one hn] at this,HB9.out⟩
   have s40:((S[n].toNat:Int)==40)=false:=u8_ne b40
   by_cases b41:S[n]=41
   ·have s41:((S[n].toNat:Int)==41)=true:=by rw [b41];rfl
    have HEq:=hid (show R0=.ok (n+1,ws++[⟨7,[S[n]],n⟩]) from by rw [hRm,if_pos (.inr (.inl b41))])
    clear hRm b40 b41
    go_wp2_with (go_at_call 78;refine (put_at HCl.out (7) (n+1) (Nat.lt_succ_self n) (hn) (by first|rfl|omega)).mono ?_;rintro e w9 ⟨rfl,hcs,hb⟩;have HC9:=hid hcs;have HB9:=hid (show Below B w w9 from HBl.out.trans hb);clear hcs hb)
    all_goals
     refine bodyPost_ret (v:=.tuple #[.int .i64 0,.int .i64 0]) (by simp [results,Tryz.results82,go_sem]) rfl ?_
     rw [HEq.out]
     exact ⟨rfl,by have:=HC9.out;rwa [seg_one hn] at this,HB9.out⟩
   have s41:((S[n].toNat:Int)==41)=false:=u8_ne b41
   by_cases b59:S[n]=59
   ·have s59:((S[n].toNat:Int)==59)=true:=by rw [b59];rfl
    have HEq:=hid (show R0=.ok (n+1,ws++[⟨7,[S[n]],n⟩]) from by rw [hRm,if_pos (.inr (.inr b59))])
    clear hRm b40 b41 b59
    go_wp2_with (go_at_call 78;refine (put_at HCl.out (7) (n+1) (Nat.lt_succ_self n) (hn) (by first|rfl|omega)).mono ?_;rintro e w9 ⟨rfl,hcs,hb⟩;have HC9:=hid hcs;have HB9:=hid (show Below B w w9 from HBl.out.trans hb);clear hcs hb)
    all_goals
     refine bodyPost_ret (v:=.tuple #[.int .i64 0,.int .i64 0]) (by simp [results,Tryz.results82,go_sem]) rfl ?_
     rw [HEq.out]
     exact ⟨rfl,by have:=HC9.out;rwa [seg_one hn] at this,HB9.out⟩
   have s59:((S[n].toNat:Int)==59)=false:=u8_ne b59
   rw [if_neg (fun h=>h.elim b40 (fun h=>h.elim b41 b59))] at hRm
   clear b40 b41 b59
   by_cases d33:(S[n].toNat:Int)<33
   ·have HEq:=hid (show R0=.bad 31 n from by rw [hRm,if_pos (.inl (by omega))])
    have g33:decide ((S[n].toNat:Int)<33)=true:=decide_eq_true d33
    clear hRm d33
    go_upto_region 15 with fail
    go_quiet (fail)
    generalize hWq:World.drewN wl _=w2
    have hbq:Below wl.heap.size wl w2:=hWq▸below_drewN (Below.refl _ _) _
    have HC2:=hid (HCl.out.later hbq)
    have HB2:=hid (show Below B w w2 from HBl.out.trans (hbq.mono HCl.out.hb))
    clear hbq hWq c0 c1 c3 cf clt hcb
    obtain ⟨c0,c1,c3,cf,clt,hcb⟩:=HC2.out.cells
    go_wp2_with fail
    refine bodyPost_ret (v:=.tuple #[.int .i64 (n:Int),.int .i64 31]) (by simp [results,Tryz.results82,go_sem]) rfl ?_
    rw [HEq.out]
    exact ⟨rfl,HB2.out⟩
   have g33:decide ((S[n].toNat:Int)<33)=false:=decide_eq_false d33
   by_cases d126:(126:Int)<(S[n].toNat:Int)
   ·have HEq:=hid (show R0=.bad 31 n from by rw [hRm,if_pos (.inr (.inl (by omega)))])
    have g126:decide ((126:Int)<(S[n].toNat:Int))=true:=decide_eq_true d126
    clear hRm d33 d126
    go_upto_region 15 with fail
    go_quiet (fail)
    generalize hWq:World.drewN wl _=w2
    have hbq:Below wl.heap.size wl w2:=hWq▸below_drewN (Below.refl _ _) _
    have HC2:=hid (HCl.out.later hbq)
    have HB2:=hid (show Below B w w2 from HBl.out.trans (hbq.mono HCl.out.hb))
    clear hbq hWq c0 c1 c3 cf clt hcb
    obtain ⟨c0,c1,c3,cf,clt,hcb⟩:=HC2.out.cells
    go_wp2_with fail
    refine bodyPost_ret (v:=.tuple #[.int .i64 (n:Int),.int .i64 31]) (by simp [results,Tryz.results82,go_sem]) rfl ?_
    rw [HEq.out]
    exact ⟨rfl,HB2.out⟩
   have g126:decide ((126:Int)<(S[n].toNat:Int))=false:=decide_eq_false d126
   cases hst:starts [123,123] ((bl S).drop n) with
   |true=>
    have HEq:=hid (show R0=.bad 31 n from by rw [hRm,if_pos (.inr (.inr hst))])
    have HPf1:=hid (fun W=>prefix_is hst W)
    clear hRm hst
    go_upto_region 15 with fail
    go_quiet ((go_at_call 51;exact Calls.quiet_of_same (HPf1.out _)))
    generalize hWq:World.drewN wl _=w2
    have hbq:Below wl.heap.size wl w2:=hWq▸below_drewN (Below.refl _ _) _
    have HC2:=hid (HCl.out.later hbq)
    have HB2:=hid (show Below B w w2 from HBl.out.trans (hbq.mono HCl.out.hb))
    clear hbq hWq c0 c1 c3 cf clt hcb
    obtain ⟨c0,c1,c3,cf,clt,hcb⟩:=HC2.out.cells
    go_wp2_with fail
    refine bodyPost_ret (v:=.tuple #[.int .i64 (n:Int),.int .i64 31]) (by simp [results,Tryz.results82,go_sem]) rfl ?_
    rw [HEq.out]
    exact ⟨rfl,HB2.out⟩
   |false=>
   rw [if_neg (fun h=>h.elim (fun h=>d33 (by omega)) (fun h=>h.elim (fun h=>d126 (by omega)) (fun h=>by rw [hst] at h;cases h)))] at hRm
   have HPf1:=hid (fun W=>prefix_is hst W)
   obtain ⟨e2,he2⟩:∃ e2,e2=n+markLen ((bl S).drop n):=⟨_,rfl⟩
   rw [take_seg,<-he2] at hRm
   have HSp:=hid (show n+1+span mk58 ((bl S).drop (n+1))=e2 from by rw [he2];exact mark_len S n)
   have HE2:=hid (show n<e2/\e2<=S.size from by have h1:=HSp.out;have h2:=span_le mk58 ((bl S).drop (n+1));rw [List.length_drop,bl_len] at h2;omega)
   have HRm:=hid hRm
   clear hRm hst he2
   go_upto_region 15 with fail
   go_quiet ((go_at_call 51;exact Calls.quiet_of_same (HPf1.out _)))
   generalize hWq:World.drewN wl _=w2
   have hbq:Below wl.heap.size wl w2:=hWq▸below_drewN (Below.refl _ _) _
   have HC2:=hid (HCl.out.later hbq)
   have HB2:=hid (show Below B w w2 from HBl.out.trans (hbq.mono HCl.out.hb))
   clear hbq hWq c0 c1 c3 cf clt hcb
   obtain ⟨c0,c1,c3,cf,clt,hcb⟩:=HC2.out.cells
   go_upto_block 6 with fail
   go_cut [8] from 13 (fun v wq=>v=.int .i64 (e2:Int)/\Below w2.heap.size w2 wq)
   case first=>
    go_wp2_with fail
    go_loopw [8] (fun i wr=>∃ k:Nat,n<k/\k<=S.size/\i=.int .i64 k/\Below w2.heap.size w2 wr/\Hid (k+span mk58 ((bl S).drop k)=e2)) (fun i _=>S.size-(intOf i).toNat)
    case atStart=>exact ⟨n+1,Nat.lt_succ_self n,hn,by go_num,Below.refl _ _,HSp⟩
    case round=>
     obtain ⟨wk,hwk⟩:∃ wk,wk=wr:=⟨_,rfl⟩
     subst hwk
     obtain ⟨k,hnk,hk,rfl,hbk,hsp⟩:=hrel
     have c0:wk.cell? ⟨cb,0,none⟩=some (.string S):=(cell_of_heap (hbk.block _ HC2.out.cells.2.2.2.2.1)).trans HC2.out.cells.1
     have HBk:=hid hbk
     have k0:(0:Int)<=(k:Int):=Int.natCast_nonneg _
     clear hbk
     by_cases hks:k<S.size
     ·have k1:(k:Int)<(S.size:Int):=Int.ofNat_lt.2 hks
      by_cases m46:S[k]=46
      ·have t46:((S[k].toNat:Int)==46)=true:=by rw [m46];rfl
       have hms:mk58 S[k]=true:=by rw [m46];rfl
       have HSn:=hid (show k+1+span mk58 ((bl S).drop (k+1))=e2 from by
        have h:=hsp.out
        rw [span_at hks,if_pos hms] at h
        omega)
       have hwk:wrap64 ((k:Int)+1)=(k:Int)+1:=wrap_succ (Nat.le_trans hk hsz)
       (try go_wp2_with fail)
       go_roundw
       case rel=>exact ⟨k+1,Nat.lt_succ_of_lt hnk,hks,by go_num,HBk.out,HSn⟩
       case measure=>exact sp_meas (by first|exact Int.lt_succ _|(rw [hwk];exact Int.lt_succ _)) k0 k1
      ·have t46:((S[k].toNat:Int)==46)=false:=u8_ne m46
       by_cases m58:S[k]=58
       ·have t58:((S[k].toNat:Int)==58)=true:=by rw [m58];rfl
        have hms:mk58 S[k]=true:=by rw [m58];rfl
        have HSn:=hid (show k+1+span mk58 ((bl S).drop (k+1))=e2 from by
         have h:=hsp.out
         rw [span_at hks,if_pos hms] at h
         omega)
        have hwk:wrap64 ((k:Int)+1)=(k:Int)+1:=wrap_succ (Nat.le_trans hk hsz)
        (try go_wp2_with fail)
        go_roundw
        case rel=>exact ⟨k+1,Nat.lt_succ_of_lt hnk,hks,by go_num,HBk.out,HSn⟩
        case measure=>exact sp_meas (by first|exact Int.lt_succ _|(rw [hwk];exact Int.lt_succ _)) k0 k1
       ·have t58:((S[k].toNat:Int)==58)=false:=u8_ne m58
        have hke:k=e2:=by
         have h:=hsp.out
         rw [span_at hks,if_neg (by unfold mk58;simp [m46,m58])] at h
         omega
        subst hke
        go_wp2_with fail
        go_meet
        case rel=>exact ⟨rfl,HBk.out⟩
     ·have k1:¬(k:Int)<(S.size:Int):=fun h=>hks (Int.ofNat_lt.1 h)
      have hke:k=e2:=by
       have h:=hsp.out
       rw [span_end (by omega)] at h
       omega
      subst hke
      go_wp2_with fail
      go_meet
      case rel=>exact ⟨rfl,HBk.out⟩
   case rest=>
   obtain ⟨rfl,hb3⟩:=hcut
   have HC3:=hid (HC2.out.later hb3)
   have HB3:=hid (show Below B w _ from HB2.out.trans (hb3.mono HC2.out.hb))
   clear hb3 c0 c1 c3 cf clt hcb
   generalize wc=w3 at HC3 HB3 ⊢
   obtain ⟨c0,c1,c3,cf,clt,hcb⟩:=HC3.out.cells
   have i1:(n:Int)<=(e2:Int):=Int.ofNat_le.2 (Nat.le_of_lt HE2.out.1)
   have i2:(e2:Int)<=(S.size:Int):=Int.ofNat_le.2 HE2.out.2
   have i3:(0:Int)<=(e2:Int):=Int.natCast_nonneg _
   go_upto_region 19 with fail
   go_quiet (fail)
   generalize hWq:World.drewN w3 _=w4
   have hbq:Below w3.heap.size w3 w4:=hWq▸below_drewN (Below.refl _ _) _
   have HC4:=hid (HC3.out.later hbq)
   have HB4:=hid (show Below B w w4 from HB3.out.trans (hbq.mono HC3.out.hb))
   clear hbq hWq c0 c1 c3 cf clt hcb
   obtain ⟨c0,c1,c3,cf,clt,hcb⟩:=HC4.out.cells
   have HLen:=hid (show (seg S n e2).length<=maxLen from by rw [seg_len (Nat.le_of_lt HE2.out.1) HE2.out.2];exact Nat.le_trans (Nat.sub_le _ _) (Nat.le_trans HE2.out.2 (Nat.le_trans HSz.out.2 (by unfold maxLen;decide))))
   obtain ⟨isP,hIs⟩:∃ b,T.isPrim (seg S n e2)=b:=⟨_,rfl⟩
   have HPr:=hid (fun W=>prim_is (s:=S.extract n e2) (b:=isP) (by rw [<-seg_bytes,bl_bytes];exact hIs) W (by rw [<-seg_bytes];simpa [bytes,ByteArray.size] using HLen.out))
   obtain ⟨kd,hkd⟩:∃ kd,kd=kindOf (seg S n e2):=⟨_,rfl⟩
   have HKd:=hid hkd
   have hRm:=HRm.out
   unfold kindText at hRm
   rw [hIs,<-hkd] at hRm
   clear hIs hkd
   cases isP with
   |true=>
    rw [if_pos rfl,if_neg (by decide)] at hRm
    have HEq:=hid hRm
    clear hRm
    go_wp2_with (first
     |(at_lookup;refine wpList_lookup_run _ (by rfl) _ _ 97 (by rfl) mb _ (.int .i64 kd) (by rfl) (by rfl) (by have h:=lookS (l:=spM) HC4.out.map Tryz.underlying97 (zero_i _) (seg S n e2) HLen.out;rw [spM_at,seg_bytes,<-HKd.out] at h;exact h) ?_)
     |(go_at_call 87;refine (HPr.out _).mono ?_;rintro e w6 ⟨rfl,hb⟩;have HC6:=hid (HC4.out.later hb);have HB6:=hid (show Below B w w6 from HB4.out.trans (hb.mono HC4.out.hb));obtain ⟨c0,c1,c3,cf,clt,hcb⟩:=HC6.out.cells;clear hb)
     |(go_at_call 78;refine (put_at HC6.out (4) (e2) (HE2.out.1) (HE2.out.2) (by first|rfl|omega)).mono ?_;rintro e w9 ⟨rfl,hcs,hb⟩;have HC9:=hid hcs;have HB9:=hid (show Below B w w9 from HB6.out.trans hb);clear hcs hb))
    all_goals
     refine bodyPost_ret (v:=.tuple #[.int .i64 0,.int .i64 0]) (by simp [results,Tryz.results82,go_sem]) rfl ?_
     rw [HEq.out]
     exact ⟨rfl,HC9.out,HB9.out⟩
   |false=>
    simp only [Bool.false_eq_true,if_false] at hRm
    by_cases hk0:kd=0
    ·have t0:(kd==0)=true:=by simp [hk0]
     rw [if_pos hk0] at hRm
     have HEq:=hid hRm
     clear hRm hk0
     go_wp2_with (first
      |(at_lookup;refine wpList_lookup_run _ (by rfl) _ _ 97 (by rfl) mb _ (.int .i64 kd) (by rfl) (by rfl) (by have h:=lookS (l:=spM) HC4.out.map Tryz.underlying97 (zero_i _) (seg S n e2) HLen.out;rw [spM_at,seg_bytes,<-HKd.out] at h;exact h) ?_)
      |(go_at_call 87;refine (HPr.out _).mono ?_;rintro e w6 ⟨rfl,hb⟩;have HC6:=hid (HC4.out.later hb);have HB6:=hid (show Below B w w6 from HB4.out.trans (hb.mono HC4.out.hb));obtain ⟨c0,c1,c3,cf,clt,hcb⟩:=HC6.out.cells;clear hb))
     all_goals
      refine bodyPost_ret (v:=.tuple #[.int .i64 (n:Int),.int .i64 31]) (by simp [results,Tryz.results82,go_sem]) rfl ?_
      rw [HEq.out]
      exact ⟨rfl,HB6.out⟩
    ·have t0:(kd==0)=false:=by simp [hk0]
     rw [if_neg hk0] at hRm
     have HEq:=hid hRm
     clear hRm hk0
     go_wp2_with (first
      |(at_lookup;refine wpList_lookup_run _ (by rfl) _ _ 97 (by rfl) mb _ (.int .i64 kd) (by rfl) (by rfl) (by have h:=lookS (l:=spM) HC4.out.map Tryz.underlying97 (zero_i _) (seg S n e2) HLen.out;rw [spM_at,seg_bytes,<-HKd.out] at h;exact h) ?_)
      |(go_at_call 87;refine (HPr.out _).mono ?_;rintro e w6 ⟨rfl,hb⟩;have HC6:=hid (HC4.out.later hb);have HB6:=hid (show Below B w w6 from HB4.out.trans (hb.mono HC4.out.hb));obtain ⟨c0,c1,c3,cf,clt,hcb⟩:=HC6.out.cells;clear hb)
      |(go_at_call 78;refine (put_at HC6.out (kd) (e2) (HE2.out.1) (HE2.out.2) (by first|rfl|omega)).mono ?_;rintro e w9 ⟨rfl,hcs,hb⟩;have HC9:=hid hcs;have HB9:=hid (show Below B w w9 from HB6.out.trans hb);clear hcs hb))
     all_goals
      refine bodyPost_ret (v:=.tuple #[.int .i64 0,.int .i64 0]) (by simp [results,Tryz.results82,go_sem]) rfl ?_
      rw [HEq.out]
      exact ⟨rfl,HC9.out,HB9.out⟩
end Pz
open Go.RowKit Go.WideMaps Go.Maps
namespace Pz
theorem number_is {B:Nat} {w:World} {cb mb:Nat} {S:ByteArray} {n:Nat} {ws:List W} {r:R (Nat × List W)} (hr:number ((bl S).drop n) n ws=r) (h:CS B w cb mb S n ws) (hn:n<S.size) (hb:S[n]=95\/digit S[n]=true):
 Calls Tryz.prog 80 #[.pointer (some ⟨cb,0,none⟩)] w (PC B cb mb S w r):=hr▸cutnum_calls h hn hb
theorem name_is {B:Nat} {w:World} {cb mb:Nat} {S:ByteArray} {n:Nat} {ws:List W} {r:R (Nat × List W)} (h:CS B w cb mb S n ws) (hn:n<S.size) (hr:name S[n] ((bl S).drop n) n ws=r) (hb:alnum S[n]=true):
 Calls Tryz.prog 81 #[.pointer (some ⟨cb,0,none⟩),.int .u8 (S[n].toNat:Int)] w (PC B cb mb S w r):=hr▸name_calls h hn hb
theorem mark_is {B:Nat} {w:World} {cb mb:Nat} {S:ByteArray} {n:Nat} {ws:List W} {r:R (Nat × List W)} (h:CS B w cb mb S n ws) (hn:n<S.size) (hr:mark S[n] ((bl S).drop n) n ws=r):
 Calls Tryz.prog 82 #[.pointer (some ⟨cb,0,none⟩),.int .u8 (S[n].toNat:Int)] w (PC B cb mb S w r):=hr▸mark_calls h hn
theorem PC.good {B cb mb:Nat} {S:ByteArray} {w:World} {m:Nat} {ws:List W} {e:Ending} {w':World} (h:PC B cb mb S w (.ok (m,ws)) e w'):e=.returned (.tuple #[.int .i64 0,.int .i64 0])/\CS B w' cb mb S m ws/\Below B w w':=h
theorem PC.wrong {B cb mb:Nat} {S:ByteArray} {w:World} {c p:Int} {e:Ending} {w':World} (h:PC B cb mb S w (.bad c p) e w'):e=.returned (.tuple #[.int .i64 p,.int .i64 c])/\Below B w w':=h
def ReqAt (S:ByteArray) (n:Nat) (hn:n<S.size):Prop:=S[n]=41/\n=0/\∃ h:1<S.size,letter S[1]=true
theorem head_is {S:ByteArray} {k:Nat} (h:k<S.size) (p:UInt8->Bool):headIs p ((bl S).drop k)=p S[k]:=by rw [bl_drop S k h];rfl
theorem head_end {S:ByteArray} {k:Nat} (h:¬k<S.size) (p:UInt8->Bool):headIs p ((bl S).drop k)=false:=by
 rw [List.drop_eq_nil_of_le (by rw [bl_len];omega)]
 rfl
theorem word_req {S:ByteArray} {ws:List W} (hn:0<S.size) (h:ReqAt S 0 hn):word ((bl S).drop 0) 0 ws=.ok (1+span letter ((bl S).drop 1),ws++[⟨7,seg S 0 (1+span letter ((bl S).drop 1)),0⟩]):=by
 obtain ⟨h1,-,h2,h3⟩:=h
 have hd:=bl_drop S 0 hn
 have hs:((bl S).drop 0).take (1+span letter ((bl S).drop 1))=seg S 0 (1+span letter ((bl S).drop 1)):=by
  rw [take_seg,Nat.zero_add]
 unfold word
 rw [<-hs]
 rw [hd]
 dsimp only
 rw [if_pos ⟨h1,rfl,by rw [head_is h2];exact h3⟩]
theorem word_no {S:ByteArray} {n:Nat} {ws:List W} (hn:n<S.size) (h:¬ReqAt S n hn):word ((bl S).drop n) n ws=if S[n]=95\/digit S[n]=true then number ((bl S).drop n) n ws else if letter S[n]=true then name S[n] ((bl S).drop n) n ws else mark S[n] ((bl S).drop n) n ws:=by
 have hd:=bl_drop S n hn
 unfold word
 rw [hd]
 dsimp only
 rw [if_neg (fun hc=>h ?_)]
 refine ⟨hc.1,hc.2.1,?_⟩
 have h0:=hc.2.1
 have h3:=hc.2.2
 subst h0
 by_cases h1:1<S.size
 ·rw [head_is h1] at h3
  exact ⟨h1,h3⟩
 ·rw [head_end h1] at h3
  cases h3
theorem word_lt {S:ByteArray} {n:Nat} {ws:List W} (hn:n<S.size) {m:Nat} {ws':List W} (h:word ((bl S).drop n) n ws=.ok (m,ws')):n<m:=by
 by_cases hr:ReqAt S n hn
 ·have h0:=hr.2.1
  subst h0
  rw [word_req hn hr] at h
  injection h with h
  injection h with h _
  omega
 rw [word_no hn hr] at h
 split at h
 ·rename_i hb
  obtain ⟨g,e2,hN,-⟩:=num_at hn hb
  have hl:n<n+numLen ((bl S).drop n):=by rw [<-hN.he];exact hN.lt
  unfold number at h
  split at h
  ·cases h
  split at h
  ·cases h
  split at h
  ·split at h<;>(injection h with h;injection h with h _;omega)
  ·injection h with h;injection h with h _;omega
 split at h
 ·rename_i hb
  have ha:alnum S[n]=true:=by
   unfold letter at hb
   unfold alnum
   rw [hb]
   rfl
  have hs:=span_at (p:=alnum) hn
  rw [ha,if_pos rfl] at hs
  unfold name at h
  dsimp only at h
  split at h
  ·split at h
   ·injection h with h;injection h with h _;omega
   split at h
   ·injection h with h;injection h with h _;omega
   cases h
  ·split at h
   ·cases h
   injection h with h;injection h with h _;omega
 ·unfold mark at h
  have hl:1<=markLen ((bl S).drop n):=by unfold markLen;omega
  repeat' split at h
  all_goals first
   |cases h;done
   |(injection h with h;injection h with h _;omega)
set_option maxRecDepth 100000 in
set_option maxHeartbeats 4000000 in
theorem word_calls {B:Nat} {w:World} {cb mb:Nat} {S:ByteArray} {n:Nat} {ws:List W} (h:CS B w cb mb S n ws) (hn:n<S.size):
 Calls Tryz.prog 52 #[.pointer (some ⟨cb,0,none⟩)] w (PC B cb mb S w (word ((bl S).drop n) n ws)):=by
 obtain ⟨R0,hR0⟩:∃ R0,word ((bl S).drop n) n ws=R0:=⟨_,rfl⟩
 rw [hR0]
 have HR:=hid hR0
 have H:=hid h
 have hsz:=h.sz
 have HSz:=hid (And.intro hn hsz)
 have hn0:(0:Int)<=(n:Int):=Int.natCast_nonneg _
 have hn1:(n:Int)<(S.size:Int):=Int.ofNat_lt.2 hn
 obtain ⟨c0,c1,c3,cf,clt,hcb⟩:=h.cells
 clear h hR0
 go_enter Tryz.func52,Tryz.ntmps52
 go_upto_region 1 with fail
 go_quiet (fail)
 generalize hWq:World.drewN w _=w1
 have hbq:Below w.heap.size w w1:=hWq▸below_drewN (Below.refl _ _) _
 have HC1:=hid (H.out.later hbq)
 have HB1:=hid (show Below B w w1 from hbq.mono H.out.hb)
 clear hbq hWq c0 c1 c3 cf clt hcb
 obtain ⟨c0,c1,c3,cf,clt,hcb⟩:=HC1.out.cells
 obtain ⟨rq,hrq⟩:∃ rq:Bool,(rq=true ↔ ReqAt S n hn):=⟨@decide (ReqAt S n hn) (Classical.propDecidable _),by simp⟩
 have HRq:=hid hrq
 clear hrq
 go_upto_region 2 with fail
 go_cut [15] from 6 (fun v wq=>v=.bool rq/\Below w1.heap.size w1 wq)
 case first=>
  by_cases h41:S[n]=41
  ·have t41:((S[n].toNat:Int)==41)=true:=by rw [h41];rfl
   by_cases hz:n=0
   ·have z0:((n:Int)==0)=true:=by rw [hz];rfl
    by_cases h1:1<S.size
    ·have g1:(1:Int)<(S.size:Int):=Int.ofNat_lt.2 h1
     cases hs:small S[1] with
     |true=>
      have hrt:rq=true:=HRq.out.2 ⟨h41,hz,h1,by unfold letter;rw [hs];rfl⟩
      subst hrt
      clear h41 hz
      go_wp2_with (first
       |(go_at_call 76;refine (small_is hs _).mono ?_;rintro e w3 ⟨rfl,hb⟩;have HB3:=hid (hb);have c0:w3.cell? ⟨cb,0,none⟩=some (.string S):=(cell_of_heap (hb.block _ (World.block_lt_of_cell? _ _ c0))).trans c0;clear hb))
      go_meet
      case rel=>exact ⟨rfl,HB3.out⟩
     |false=>
      cases hc:capital S[1] with
      |true=>
       have hrt:rq=true:=HRq.out.2 ⟨h41,hz,h1,by unfold letter;rw [hs,hc];rfl⟩
       subst hrt
       clear h41 hz
       go_wp2_with (first
        |(go_at_call 76;refine (small_is hs _).mono ?_;rintro e w3 ⟨rfl,hb⟩;have HB3:=hid (hb);have c0:w3.cell? ⟨cb,0,none⟩=some (.string S):=(cell_of_heap (hb.block _ (World.block_lt_of_cell? _ _ c0))).trans c0;clear hb)
        |(go_at_call 77;refine (capital_is hc _).mono ?_;rintro e w4 ⟨rfl,hb⟩;have HB4:=hid (HB3.out.trans (hb.mono HB3.out.size));clear hb))
       go_meet
       case rel=>exact ⟨rfl,HB4.out⟩
      |false=>
       have hrt:rq=false:=Bool.eq_false_iff.2 (fun e=>by
        obtain ⟨-,-,h2,h3⟩:=HRq.out.1 e
        unfold letter at h3
        rw [hs,hc] at h3
        cases h3)
       subst hrt
       clear h41 hz
       go_wp2_with (first
        |(go_at_call 76;refine (small_is hs _).mono ?_;rintro e w3 ⟨rfl,hb⟩;have HB3:=hid (hb);have c0:w3.cell? ⟨cb,0,none⟩=some (.string S):=(cell_of_heap (hb.block _ (World.block_lt_of_cell? _ _ c0))).trans c0;clear hb)
        |(go_at_call 77;refine (capital_is hc _).mono ?_;rintro e w4 ⟨rfl,hb⟩;have HB4:=hid (HB3.out.trans (hb.mono HB3.out.size));clear hb))
       go_meet
       case rel=>exact ⟨rfl,HB4.out⟩
    ·have g1:¬(1:Int)<(S.size:Int):=fun h=>h1 (Int.ofNat_lt.1 h)
     have hrt:rq=false:=Bool.eq_false_iff.2 (fun e=>by
      obtain ⟨-,-,h2,-⟩:=HRq.out.1 e
      exact h1 h2)
     subst hrt
     clear h41 hz
     go_wp2_with fail
     go_meet
     case rel=>exact ⟨rfl,Below.refl _ _⟩
   ·have z0:((n:Int)==0)=false:=by simp;omega
    have hrt:rq=false:=Bool.eq_false_iff.2 (fun e=>by
     obtain ⟨-,h2,-⟩:=HRq.out.1 e
     exact hz h2)
    subst hrt
    clear h41 hz
    go_wp2_with fail
    go_meet
    case rel=>exact ⟨rfl,Below.refl _ _⟩
  ·have t41:((S[n].toNat:Int)==41)=false:=u8_ne h41
   have hrt:rq=false:=Bool.eq_false_iff.2 (fun e=>h41 (HRq.out.1 e).1)
   subst hrt
   clear h41
   go_wp2_with fail
   go_meet
   case rel=>exact ⟨rfl,Below.refl _ _⟩
 case rest=>
 obtain ⟨rfl,hb2⟩:=hcut
 have HC2:=hid (HC1.out.later hb2)
 have HB2:=hid (show Below B w _ from HB1.out.trans (hb2.mono HC1.out.hb))
 clear hb2 c0 c1 c3 cf clt hcb
 generalize wc=w2 at HC2 HB2 ⊢
 obtain ⟨c0,c1,c3,cf,clt,hcb⟩:=HC2.out.cells
 cases rq with
 |true=>
  have hreq:=HRq.out.1 rfl
  have hz:=hreq.2.1
  subst hz
  have HEq:=hid (HR.out.symm.trans (word_req hn hreq))
  obtain ⟨e2,he2⟩:∃ e2,e2=1+span letter ((bl S).drop 1):=⟨_,rfl⟩
  rw [<-he2] at HEq
  have HE:=hid (show 0<e2/\e2<=S.size from by
   have h1:=span_le letter ((bl S).drop 1)
   rw [List.length_drop,bl_len] at h1
   omega)
  have HS0:=hid he2.symm
  clear he2 hreq c1
  go_upto_block 1 with fail
  go_cut [5] from 6 (fun v wq=>v=.int .i64 (e2:Int)/\Below w2.heap.size w2 wq)
  case first=>
   go_wp2_with fail
   go_loopw [5] (fun i wr=>∃ k:Nat,k<=S.size/\i=.int .i64 k/\Below w2.heap.size w2 wr/\Hid (k+span letter ((bl S).drop k)=e2)) (fun i _=>S.size-(intOf i).toNat)
   case atStart=>exact ⟨1,HSz.out.1,rfl,Below.refl _ _,HS0⟩
   case round=>
    obtain ⟨wk,hwk⟩:∃ wk,wk=wr:=⟨_,rfl⟩
    subst hwk
    obtain ⟨k,hk,rfl,hbk,hsp⟩:=hrel
    have c0:wk.cell? ⟨cb,0,none⟩=some (.string S):=(cell_of_heap (hbk.block _ HC2.out.cells.2.2.2.2.1)).trans HC2.out.cells.1
    have HBk:=hid hbk
    have k0:(0:Int)<=(k:Int):=Int.natCast_nonneg _
    clear hbk
    by_cases hlt:k<S.size
    ·have k1:(k:Int)<(S.size:Int):=Int.ofNat_lt.2 hlt
     have hw:wrap64 ((k:Int)+1)=(k:Int)+1:=wrap_succ (Nat.le_trans hk hsz)
     have hle:letter S[k]=true->k+1+span letter ((bl S).drop (k+1))=e2:=fun ha=>by
      have:=hsp.out
      rw [span_at hlt,ha,if_pos rfl] at this
      omega
     cases ha:small S[k] with
     |true=>
      have HSp:=hid (hle (by unfold letter;rw [ha];rfl))
      clear hle
      go_wp2_with (first
       |(go_at_call 76;refine (small_is ha _).mono ?_;rintro e wS ⟨rfl,hb⟩;have HBs:=hid (HBk.out.trans (hb.mono HBk.out.size));have c0:wS.cell? ⟨cb,0,none⟩=some (.string S):=(cell_of_heap (hb.block _ (World.block_lt_of_cell? _ _ c0))).trans c0;clear hb))
      go_roundw
      case rel=>exact ⟨k+1,hlt,by go_num,HBs.out,HSp⟩
      case measure=>exact sp_meas (by first|exact Int.lt_succ _|(rw [hw];exact Int.lt_succ _)) k0 k1
     |false=>
      cases hc:capital S[k] with
      |true=>
       have HSp:=hid (hle (by unfold letter;rw [ha,hc];rfl))
       clear hle
       go_wp2_with (first
        |(go_at_call 76;refine (small_is ha _).mono ?_;rintro e wS ⟨rfl,hb⟩;have HBs:=hid (HBk.out.trans (hb.mono HBk.out.size));have c0:wS.cell? ⟨cb,0,none⟩=some (.string S):=(cell_of_heap (hb.block _ (World.block_lt_of_cell? _ _ c0))).trans c0;clear hb)
        |(go_at_call 77;refine (capital_is hc _).mono ?_;rintro e wC ⟨rfl,hb⟩;have HBc:=hid (HBs.out.trans (hb.mono HBs.out.size));have c0:wC.cell? ⟨cb,0,none⟩=some (.string S):=(cell_of_heap (hb.block _ (World.block_lt_of_cell? _ _ c0))).trans c0;clear hb))
       go_roundw
       case rel=>exact ⟨k+1,hlt,by go_num,HBc.out,HSp⟩
       case measure=>exact sp_meas (by first|exact Int.lt_succ _|(rw [hw];exact Int.lt_succ _)) k0 k1
      |false=>
       have hke:k=e2:=by
        have:=hsp.out
        rw [span_at hlt,if_neg (by unfold letter;rw [ha,hc];simp)] at this
        omega
       subst hke
       clear hle
       go_wp2_with (first
        |(go_at_call 76;refine (small_is ha _).mono ?_;rintro e wS ⟨rfl,hb⟩;have HBs:=hid (HBk.out.trans (hb.mono HBk.out.size));have c0:wS.cell? ⟨cb,0,none⟩=some (.string S):=(cell_of_heap (hb.block _ (World.block_lt_of_cell? _ _ c0))).trans c0;clear hb)
        |(go_at_call 77;refine (capital_is hc _).mono ?_;rintro e wC ⟨rfl,hb⟩;have HBc:=hid (HBs.out.trans (hb.mono HBs.out.size));have c0:wC.cell? ⟨cb,0,none⟩=some (.string S):=(cell_of_heap (hb.block _ (World.block_lt_of_cell? _ _ c0))).trans c0;clear hb))
       go_meet
       case rel=>exact ⟨rfl,HBc.out⟩
    ·have hke:k=e2:=by
      have:=hsp.out
      rw [span_end (by omega)] at this
      omega
     subst hke
     have k1:¬(k:Int)<(S.size:Int):=fun h=>hlt (Int.ofNat_lt.1 h)
     go_wp2_with fail
     go_meet
     case rel=>exact ⟨rfl,HBk.out⟩
  case rest=>
  obtain ⟨rfl,hb3⟩:=hcut
  have HC3:=hid (HC2.out.later hb3)
  have HB3:=hid (show Below B w _ from HB2.out.trans (hb3.mono HC2.out.hb))
  clear hb3 c0 c3 cf clt hcb
  generalize wc=w3 at HC3 HB3 ⊢
  go_wp2_with (go_at_call 78;refine (put_at HC3.out 7 e2 HE.out.1 HE.out.2 rfl).mono ?_;rintro e w9 ⟨rfl,hcs,hb⟩;have HC9:=hid hcs;have HB9:=hid (show Below B w w9 from HB3.out.trans hb);clear hcs hb)
  all_goals
   refine bodyPost_ret (v:=.tuple #[.int .i64 0,.int .i64 0]) (by simp [results,Tryz.results52,go_sem]) rfl ?_
   rw [HEq.out]
   exact ⟨rfl,HC9.out,HB9.out⟩
 |false=>
  have hw:=word_no (ws:=ws) hn (fun e=>Bool.false_ne_true (HRq.out.2 e))
  rw [HR.out] at hw
  clear c0 c1 c3 cf clt hcb
  by_cases h95:S[n]=95
  ·have t95:((S[n].toNat:Int)==95)=true:=by rw [h95];rfl
   rw [if_pos (.inl h95)] at hw
   have HCall:=hid (number_is hw.symm HC2.out hn (.inl h95))
   clear hw h95
   cases R0 with
   |ok x=>
    obtain ⟨m,ws2⟩:=x
    go_wp2_with (first
     |(go_at_call 80;refine (HCall.out).mono ?_;intro e w9 hp;obtain ⟨rfl,hcs,hb⟩:=hp.good;have HC9:=hid hcs;have HB9:=hid (show Below B w w9 from HB2.out.trans hb);clear hcs hb))
    all_goals
     refine bodyPost_ret (v:=.tuple #[.int .i64 0,.int .i64 0]) (by simp [results,Tryz.results52,go_sem]) rfl ?_
     exact ⟨rfl,HC9.out,HB9.out⟩
   |bad c p=>
    go_wp2_with (first
     |(go_at_call 80;refine (HCall.out).mono ?_;intro e w9 hp;obtain ⟨rfl,hb⟩:=hp.wrong;have HB9:=hid (show Below B w w9 from HB2.out.trans hb);clear hb))
    all_goals
     refine bodyPost_ret (v:=.tuple #[.int .i64 p,.int .i64 c]) (by simp [results,Tryz.results52,go_sem]) rfl ?_
     exact ⟨rfl,HB9.out⟩
  have t95:((S[n].toNat:Int)==95)=false:=u8_ne h95
  cases hd:digit S[n] with
  |true=>
   rw [if_pos (.inr hd)] at hw
   have HCall:=hid (fun W (hc:CS B W cb mb S n ws)=>number_is hw.symm hc hn (.inr hd))
   clear hw h95
   cases R0 with
   |ok x=>
    obtain ⟨m,ws2⟩:=x
    go_wp2_with (first
     |(go_at_call 79;refine (digit_is hd _).mono ?_;rintro e w3 ⟨rfl,hb⟩;have HC3:=hid (HC2.out.later hb);have HB3:=hid (show Below B w w3 from HB2.out.trans (hb.mono HC2.out.hb));clear hb)
     |(go_at_call 80;refine ((HCall.out _ HC3.out)).mono ?_;intro e w9 hp;obtain ⟨rfl,hcs,hb⟩:=hp.good;have HC9:=hid hcs;have HB9:=hid (show Below B w w9 from HB3.out.trans hb);clear hcs hb))
    all_goals
     refine bodyPost_ret (v:=.tuple #[.int .i64 0,.int .i64 0]) (by simp [results,Tryz.results52,go_sem]) rfl ?_
     exact ⟨rfl,HC9.out,HB9.out⟩
   |bad c p=>
    go_wp2_with (first
     |(go_at_call 79;refine (digit_is hd _).mono ?_;rintro e w3 ⟨rfl,hb⟩;have HC3:=hid (HC2.out.later hb);have HB3:=hid (show Below B w w3 from HB2.out.trans (hb.mono HC2.out.hb));clear hb)
     |(go_at_call 80;refine ((HCall.out _ HC3.out)).mono ?_;intro e w9 hp;obtain ⟨rfl,hb⟩:=hp.wrong;have HB9:=hid (show Below B w w9 from HB3.out.trans hb);clear hb))
    all_goals
     refine bodyPost_ret (v:=.tuple #[.int .i64 p,.int .i64 c]) (by simp [results,Tryz.results52,go_sem]) rfl ?_
     exact ⟨rfl,HB9.out⟩
  |false=>
  rw [if_neg (fun h=>h.elim h95 (fun h=>by rw [hd] at h;cases h))] at hw
  clear h95
  cases hs:small S[n] with
  |true=>
   rw [if_pos (by unfold letter;rw [hs];rfl)] at hw
   have HCall:=hid (fun W (hc:CS B W cb mb S n ws)=>name_is hc hn hw.symm (by unfold alnum;rw [hs];rfl))
   clear hw
   cases R0 with
   |ok x=>
    obtain ⟨m,ws2⟩:=x
    go_wp2_with (first
     |(go_at_call 79;refine (digit_is hd _).mono ?_;rintro e w3 ⟨rfl,hb⟩;have HC3:=hid (HC2.out.later hb);have HB3:=hid (show Below B w w3 from HB2.out.trans (hb.mono HC2.out.hb));clear hb)
     |(go_at_call 76;refine (small_is hs _).mono ?_;rintro e w4 ⟨rfl,hb⟩;have HC4:=hid (HC3.out.later hb);have HB4:=hid (show Below B w w4 from HB3.out.trans (hb.mono HC3.out.hb));clear hb)
     |(go_at_call 81;refine ((HCall.out _ HC4.out)).mono ?_;intro e w9 hp;obtain ⟨rfl,hcs,hb⟩:=hp.good;have HC9:=hid hcs;have HB9:=hid (show Below B w w9 from HB4.out.trans hb);clear hcs hb))
    all_goals
     refine bodyPost_ret (v:=.tuple #[.int .i64 0,.int .i64 0]) (by simp [results,Tryz.results52,go_sem]) rfl ?_
     exact ⟨rfl,HC9.out,HB9.out⟩
   |bad c p=>
    go_wp2_with (first
     |(go_at_call 79;refine (digit_is hd _).mono ?_;rintro e w3 ⟨rfl,hb⟩;have HC3:=hid (HC2.out.later hb);have HB3:=hid (show Below B w w3 from HB2.out.trans (hb.mono HC2.out.hb));clear hb)
     |(go_at_call 76;refine (small_is hs _).mono ?_;rintro e w4 ⟨rfl,hb⟩;have HC4:=hid (HC3.out.later hb);have HB4:=hid (show Below B w w4 from HB3.out.trans (hb.mono HC3.out.hb));clear hb)
     |(go_at_call 81;refine ((HCall.out _ HC4.out)).mono ?_;intro e w9 hp;obtain ⟨rfl,hb⟩:=hp.wrong;have HB9:=hid (show Below B w w9 from HB4.out.trans hb);clear hb))
    all_goals
     refine bodyPost_ret (v:=.tuple #[.int .i64 p,.int .i64 c]) (by simp [results,Tryz.results52,go_sem]) rfl ?_
     exact ⟨rfl,HB9.out⟩
  |false=>
  cases hc:capital S[n] with
  |true=>
   rw [if_pos (by unfold letter;rw [hs,hc];rfl)] at hw
   have HCall:=hid (fun W (hk:CS B W cb mb S n ws)=>name_is hk hn hw.symm (by unfold alnum;rw [hs,hc];rfl))
   clear hw
   cases R0 with
   |ok x=>
    obtain ⟨m,ws2⟩:=x
    go_wp2_with (first
     |(go_at_call 79;refine (digit_is hd _).mono ?_;rintro e w3 ⟨rfl,hb⟩;have HC3:=hid (HC2.out.later hb);have HB3:=hid (show Below B w w3 from HB2.out.trans (hb.mono HC2.out.hb));clear hb)
     |(go_at_call 76;refine (small_is hs _).mono ?_;rintro e w4 ⟨rfl,hb⟩;have HC4:=hid (HC3.out.later hb);have HB4:=hid (show Below B w w4 from HB3.out.trans (hb.mono HC3.out.hb));clear hb)
     |(go_at_call 77;refine (capital_is hc _).mono ?_;rintro e w5 ⟨rfl,hb⟩;have HC5:=hid (HC4.out.later hb);have HB5:=hid (show Below B w w5 from HB4.out.trans (hb.mono HC4.out.hb));clear hb)
     |(go_at_call 81;refine ((HCall.out _ HC5.out)).mono ?_;intro e w9 hp;obtain ⟨rfl,hcs,hb⟩:=hp.good;have HC9:=hid hcs;have HB9:=hid (show Below B w w9 from HB5.out.trans hb);clear hcs hb))
    all_goals
     refine bodyPost_ret (v:=.tuple #[.int .i64 0,.int .i64 0]) (by simp [results,Tryz.results52,go_sem]) rfl ?_
     exact ⟨rfl,HC9.out,HB9.out⟩
   |bad c p=>
    go_wp2_with (first
     |(go_at_call 79;refine (digit_is hd _).mono ?_;rintro e w3 ⟨rfl,hb⟩;have HC3:=hid (HC2.out.later hb);have HB3:=hid (show Below B w w3 from HB2.out.trans (hb.mono HC2.out.hb));clear hb)
     |(go_at_call 76;refine (small_is hs _).mono ?_;rintro e w4 ⟨rfl,hb⟩;have HC4:=hid (HC3.out.later hb);have HB4:=hid (show Below B w w4 from HB3.out.trans (hb.mono HC3.out.hb));clear hb)
     |(go_at_call 77;refine (capital_is hc _).mono ?_;rintro e w5 ⟨rfl,hb⟩;have HC5:=hid (HC4.out.later hb);have HB5:=hid (show Below B w w5 from HB4.out.trans (hb.mono HC4.out.hb));clear hb)
     |(go_at_call 81;refine ((HCall.out _ HC5.out)).mono ?_;intro e w9 hp;obtain ⟨rfl,hb⟩:=hp.wrong;have HB9:=hid (show Below B w w9 from HB5.out.trans hb);clear hb))
    all_goals
     refine bodyPost_ret (v:=.tuple #[.int .i64 p,.int .i64 c]) (by simp [results,Tryz.results52,go_sem]) rfl ?_
     exact ⟨rfl,HB9.out⟩
  |false=>
   rw [if_neg (by unfold letter;rw [hs,hc];simp)] at hw
   have HCall:=hid (fun W (hk:CS B W cb mb S n ws)=>mark_is hk hn hw.symm)
   clear hw
   cases R0 with
   |ok x=>
    obtain ⟨m,ws2⟩:=x
    go_wp2_with (first
     |(go_at_call 79;refine (digit_is hd _).mono ?_;rintro e w3 ⟨rfl,hb⟩;have HC3:=hid (HC2.out.later hb);have HB3:=hid (show Below B w w3 from HB2.out.trans (hb.mono HC2.out.hb));clear hb)
     |(go_at_call 76;refine (small_is hs _).mono ?_;rintro e w4 ⟨rfl,hb⟩;have HC4:=hid (HC3.out.later hb);have HB4:=hid (show Below B w w4 from HB3.out.trans (hb.mono HC3.out.hb));clear hb)
     |(go_at_call 77;refine (capital_is hc _).mono ?_;rintro e w5 ⟨rfl,hb⟩;have HC5:=hid (HC4.out.later hb);have HB5:=hid (show Below B w w5 from HB4.out.trans (hb.mono HC4.out.hb));clear hb)
     |(go_at_call 82;refine ((HCall.out _ HC5.out)).mono ?_;intro e w9 hp;obtain ⟨rfl,hcs,hb⟩:=hp.good;have HC9:=hid hcs;have HB9:=hid (show Below B w w9 from HB5.out.trans hb);clear hcs hb))
    all_goals
     refine bodyPost_ret (v:=.tuple #[.int .i64 0,.int .i64 0]) (by simp [results,Tryz.results52,go_sem]) rfl ?_
     exact ⟨rfl,HC9.out,HB9.out⟩
   |bad c p=>
    go_wp2_with (first
     |(go_at_call 79;refine (digit_is hd _).mono ?_;rintro e w3 ⟨rfl,hb⟩;have HC3:=hid (HC2.out.later hb);have HB3:=hid (show Below B w w3 from HB2.out.trans (hb.mono HC2.out.hb));clear hb)
     |(go_at_call 76;refine (small_is hs _).mono ?_;rintro e w4 ⟨rfl,hb⟩;have HC4:=hid (HC3.out.later hb);have HB4:=hid (show Below B w w4 from HB3.out.trans (hb.mono HC3.out.hb));clear hb)
     |(go_at_call 77;refine (capital_is hc _).mono ?_;rintro e w5 ⟨rfl,hb⟩;have HC5:=hid (HC4.out.later hb);have HB5:=hid (show Below B w w5 from HB4.out.trans (hb.mono HC4.out.hb));clear hb)
     |(go_at_call 82;refine ((HCall.out _ HC5.out)).mono ?_;intro e w9 hp;obtain ⟨rfl,hb⟩:=hp.wrong;have HB9:=hid (show Below B w w9 from HB5.out.trans hb);clear hb))
    all_goals
     refine bodyPost_ret (v:=.tuple #[.int .i64 p,.int .i64 c]) (by simp [results,Tryz.results52,go_sem]) rfl ?_
     exact ⟨rfl,HB9.out⟩
end Pz
open Go.RowKit Go.WideMaps Go.Maps
namespace Pz
def posOf (b:Nat) (w:World):Nat:=((w.cell? ⟨b,1,none⟩).map fun v=>(intOf v).toNat).getD 0
theorem CS.pos {B:Nat} {w:World} {cb mb:Nat} {S:ByteArray} {n:Nat} {ws:List W} (h:CS B w cb mb S n ws):posOf cb w=n:=by
 unfold posOf
 rw [h.cells.2.1]
 simp [intOf]
theorem CS.blank {B:Nat} {w:World} {cb mb:Nat} {S:ByteArray} {n:Nat} {ws:List W} (h:CS B w cb mb S n ws) (hn:n<S.size) {u:Value} (hu:u=.int .i64 ((n+1:Nat):Int)):CS B (w.setCell ⟨cb,1,none⟩ u) cb mb S (n+1) ws/\Below B w (w.setCell ⟨cb,1,none⟩ u):=by
 obtain ⟨wv,last,rv,vs,k,hc,hf,hk,hl⟩:=h.ex
 have hb:Below B w (w.setCell ⟨cb,1,none⟩ u):=(Below.refl B w).setCell (p:=⟨cb,1,none⟩) hc.cb0 u
 exact ⟨⟨⟨wv,last,rv,vs,k,hc.place (n+1) hu,hf,hk,by omega⟩,by have:=h.len;omega,h.sz,hn,Nat.le_trans h.hb hb.size,h.vars.kept (hb.block _ h.gb.1) (hb.block _ h.gb.2),h.gb⟩,hb⟩
theorem CS.start {w w1:World} {S:ByteArray} (hS:S.size<=1048576) (hv:Vars w) (hm:w1.ownsMap Tryz.prog 9 Hv w.heap.size 21 (putS (.map []) spM)) (hb:Below w.heap.size w w1):
 CS w.heap.size (w1.alloc (.cells #[.string S,.int .i64 0,.slice none 0 0,.map (some w.heap.size),.int .i64 0,.slice none 0 0] 101)) w1.heap.size w.heap.size S 0 []:=by
 have hb1:=(Below.refl w1.heap.size w1).alloc (Nat.le_refl _) (.cells #[.string S,.int .i64 0,.slice none 0 0,.map (some w.heap.size),.int .i64 0,.slice none 0 0] 101)
 have hb2:=hb.trans (hb1.mono hb.size)
 refine ⟨⟨.slice none 0 0,0,.slice none 0 0,[],[],⟨Boxd.new _ _ _,⟨_,_,heap_new _ _⟩,⟨rfl,.inl ⟨rfl,rfl⟩⟩,⟨rfl,.inl ⟨rfl,rfl⟩⟩,ownsMap_keep hm (hb1.block _ hm.lt),hb.size,Nat.le_refl _⟩,rfl,fun v h=>by simp at h,Nat.zero_le _⟩,Nat.le_refl _,hS,Nat.zero_le _,hb2.size,hv.later hb2 (Nat.le_refl _),hv.lt⟩
theorem cut_end {s:List UInt8} {n:Nat} (h:s.length<=n):∀ (f:Nat) (ws:List W),cutF f s n ws=.ok ws
 |0,ws=>rfl
 |f+1,ws=>by
  rw [cutF,List.drop_eq_nil_of_le h]
theorem cut_blank {S:ByteArray} {f n:Nat} {ws:List W} (hn:n<S.size) (h:S[n]=32):cutF (f+1) (bl S) n ws=cutF f (bl S) (n+1) ws:=by
 rw [cutF,bl_drop S n hn]
 dsimp only
 rw [if_pos h]
theorem cut_nb {S:ByteArray} {f n:Nat} {ws:List W} (hn:n<S.size) (h:¬S[n]=32) (h2:starts [78,66,46] ((bl S).drop n)=true):cutF (f+1) (bl S) n ws=.ok ws:=by
 rw [bl_drop S n hn] at h2
 rw [cutF,bl_drop S n hn]
 dsimp only
 rw [if_neg h,if_pos h2]
theorem cut_word {S:ByteArray} {f n:Nat} {ws:List W} (hn:n<S.size) (h:¬S[n]=32) (h2:starts [78,66,46] ((bl S).drop n)=false):cutF (f+1) (bl S) n ws=(word ((bl S).drop n) n ws).andThen fun x=>cutF f (bl S) x.1 x.2:=by
 rw [bl_drop S n hn] at h2 ⊢
 rw [cutF,bl_drop S n hn]
 dsimp only
 rw [if_neg h,if_neg (by rw [h2];simp)]
theorem word_bad {r:List UInt8} {n:Nat} {ws:List W} {c p:Int} (h:word r n ws=.bad c p):c=30\/c=31:=by
 unfold word number name mark at h
 repeat' split at h
 all_goals first
  |cases h;done
  |(injection h with h1 h2;subst h1;simp;done)
  |skip
 all_goals
  dsimp only at h
  repeat' split at h
  all_goals first
   |cases h;done
   |(injection h with h1 h2;subst h1;simp;done)
theorem word_isbad {B:Nat} {w:World} {cb mb:Nat} {S:ByteArray} {n:Nat} {ws:List W} {r:R (Nat × List W)} (hr:word ((bl S).drop n) n ws=r) (h:CS B w cb mb S n ws) (hn:n<S.size):
 Calls Tryz.prog 52 #[.pointer (some ⟨cb,0,none⟩)] w (PC B cb mb S w r):=hr▸word_calls h hn
def PCut (w:World) (r:R (List W)) (e:Ending) (w':World):Prop:=
 match r with
 |.ok ws=>∃ A cap,e=.returned (.tuple #[.slice A ws.length cap,.int .i64 0,.int .i64 0])/\w'.ownsRow w.heap.size 71 3 (.slice A ws.length cap) ws.length (wflat ws)/\Below w.heap.size w w'
 |.bad c p=>e=.returned (.tuple #[.slice none 0 0,.int .i64 p,.int .i64 c])/\Below w.heap.size w w'
theorem PCut.good {w:World} {ws:List W} {e:Ending} {w':World} (h:PCut w (.ok ws) e w'):∃ A cap,e=.returned (.tuple #[.slice A ws.length cap,.int .i64 0,.int .i64 0])/\w'.ownsRow w.heap.size 71 3 (.slice A ws.length cap) ws.length (wflat ws)/\Below w.heap.size w w':=h
theorem PCut.wrong {w:World} {c p:Int} {e:Ending} {w':World} (h:PCut w (.bad c p) e w'):e=.returned (.tuple #[.slice none 0 0,.int .i64 p,.int .i64 c])/\Below w.heap.size w w':=h
theorem prefix_nb {S:ByteArray} {n:Nat} {b:Bool} (h:starts [78,66,46] ((bl S).drop n)=b) (w:World):Calls Tryz.prog 51 #[.string (S.extract n S.size),.string ⟨#[78,66,46]⟩] w fun e w'=>e=.returned (.bool b)/\w'=w:=prefix_is h w
set_option maxRecDepth 100000 in
set_option maxHeartbeats 4000000 in
theorem cut_calls (S:ByteArray) (w:World) (hv:Vars w):Calls Tryz.prog 25 #[.string S] w (PCut w (cut (bl S))):=by
 by_cases hbig:1048576<S.size
 ·have hb:(1048576:Int)<(S.size:Int):=Int.ofNat_lt.2 hbig
  rw [show cut (bl S)=.bad 2 0 from by unfold cut;rw [if_pos (by rw [bl_len];exact hbig)]]
  go_enter Tryz.func25,Tryz.ntmps25
  go_wp2_with fail
  refine bodyPost_ret (v:=.tuple #[.slice none 0 0,.int .i64 0,.int .i64 2]) (by simp [results,Tryz.results25,go_sem]) rfl ?_
  exact ⟨rfl,Below.refl _ _⟩
 have hb:¬(1048576:Int)<(S.size:Int):=fun h=>hbig (Int.ofNat_lt.1 h)
 have hS:S.size<=1048576:=Nat.le_of_not_lt hbig
 obtain ⟨R0,hR0⟩:∃ R0,cut (bl S)=R0:=⟨_,rfl⟩
 rw [hR0]
 unfold cut at hR0
 rw [if_neg (by rw [bl_len];exact hbig),bl_len] at hR0
 have HR:=hid hR0
 have HV:=hid hv
 have HSz:=hid hS
 clear hR0 hbig hv
 go_enter Tryz.func25,Tryz.ntmps25
 go_upto_block 0 with (go_at_call 50;refine (spelled_calls _).mono ?_;rintro e w1 ⟨rfl,hm,hb1⟩;have HM:=hid hm;have HB1:=hid hb1;clear hm hb1)
 generalize hWb:World.alloc w1 _=w2
 have hst:CS w.heap.size w2 w1.heap.size w.heap.size S 0 []:=hWb▸CS.start HSz.out HV.out HM.out HB1.out
 have HC2:=hid hst
 have HB2:=hid (show Below w.heap.size w w2 from hWb▸HB1.out.trans (((Below.refl w1.heap.size w1).alloc (Nat.le_refl _) _).mono HB1.out.size))
 clear hWb hst
 go_cut [] from 8 (fun wq=>∃ (n:Nat) (ws:List W),CS w.heap.size wq w1.heap.size w.heap.size S n ws/\Below w.heap.size w wq/\R0=.ok ws)
 case first=>
  go_wp2_with fail
  go_loopw [] (fun wr=>∃ (n:Nat) (ws:List W) (f:Nat),CS w.heap.size wr w1.heap.size w.heap.size S n ws/\Below w.heap.size w wr/\cutF f (bl S) n ws=R0/\S.size-n<f) (fun wr=>S.size-posOf w1.heap.size wr)
  case atStart=>exact ⟨0,[],S.size+1,HC2.out,HB2.out,HR.out,Nat.lt_succ_of_le (Nat.sub_le _ _)⟩
  case round=>
   obtain ⟨wk,hwk⟩:∃ wk,wk=wr:=⟨_,rfl⟩
   subst hwk
   obtain ⟨n,ws,f,hcs,hbk,hcut,hf⟩:=hrel
   have HC:=hid hcs
   have HB:=hid hbk
   have hsz:=hcs.sz
   obtain ⟨c0,c1,c3,cf,clt,hcb⟩:=hcs.cells
   have k0:(0:Int)<=(n:Int):=Int.natCast_nonneg _
   have k2:(n:Int)<=(S.size:Int):=Int.ofNat_le.2 hcs.le
   clear hcs hbk
   by_cases hn:n<S.size
   ·have k1:(n:Int)<(S.size:Int):=Int.ofNat_lt.2 hn
    have hw:wrap64 ((n:Int)+1)=(n:Int)+1:=wrap_succ (Nat.le_trans (Nat.le_of_lt hn) hsz)
    obtain ⟨f,rfl⟩:∃ g,f=g+1:=⟨f-1,by omega⟩
    have HF:=hid hf
    clear hf
    by_cases h32:S[n]=32
    ·have t32:((S[n].toNat:Int)==32)=true:=by rw [h32];rfl
     rw [cut_blank hn h32] at hcut
     have HCut:=hid hcut
     clear hcut h32
     (try go_wp2_with fail)
     generalize hW5:World.setCell wk _ _=w5
     have hfin:=HC.out.blank hn (u:=.int .i64 ((n:Int)+1)) rfl
     rw [hW5] at hfin
     go_roundw
     case rel=>exact ⟨n+1,ws,f,hfin.1,HB.out.trans hfin.2,HCut.out,by have:=HF.out;omega⟩
     case measure=>rw [hfin.1.pos,HC.out.pos];omega
    ·have t32:((S[n].toNat:Int)==32)=false:=u8_ne h32
     cases hst:starts [78,66,46] ((bl S).drop n) with
     |true=>
      rw [cut_nb hn h32 hst] at hcut
      have HCut:=hid hcut
      have HPf1:=hid (fun W=>prefix_nb hst W)
      clear hcut h32 hst
      go_wp2_with (go_at_call 51;refine (HPf1.out _).mono ?_;rintro e w' ⟨rfl,rfl⟩)
      go_meet
      case rel=>exact ⟨n,ws,HC.out,HB.out,HCut.out.symm⟩
     |false=>
      rw [cut_word hn h32 hst] at hcut
      have HPf1:=hid (fun W=>prefix_nb hst W)
      obtain ⟨R1,hR1⟩:∃ R1,word ((bl S).drop n) n ws=R1:=⟨_,rfl⟩
      rw [hR1] at hcut
      have HCall:=hid (word_isbad hR1 HC.out hn)
      clear h32 hst
      cases R1 with
      |ok x=>
       obtain ⟨m,ws2⟩:=x
       have HCut:=hid (show cutF f (bl S) m ws2=R0 from hcut)
       have HLt:=hid (word_lt hn hR1)
       clear hcut hR1
       go_wp2_with (first
        |(go_at_call 51;refine (HPf1.out _).mono ?_;rintro e w' ⟨rfl,rfl⟩)
        |(go_at_call 52;refine HCall.out.mono ?_;intro e w9 hp;obtain ⟨rfl,hcs,hb9⟩:=hp.good;have HC9:=hid hcs;have HB9:=hid (HB.out.trans hb9);clear hcs hb9))
       go_roundw
       case rel=>exact ⟨m,ws2,f,HC9.out,HB9.out,HCut.out,by have:=HF.out;have:=HLt.out;omega⟩
       case measure=>rw [HC9.out.pos,HC.out.pos];have:=HLt.out;omega
      |bad c p=>
       have HCut:=hid (show R.bad c p=R0 from hcut)
       have hc0:¬c=0:=by
        rcases word_bad hR1 with rfl|rfl<;>decide
       have t0:(c !=0)=true:=by simp [hc0]
       clear hcut hR1
       go_wp2_with (first
        |(go_at_call 51;refine (HPf1.out _).mono ?_;rintro e w' ⟨rfl,rfl⟩)
        |(go_at_call 52;refine HCall.out.mono ?_;intro e w9 hp;obtain ⟨rfl,hb9⟩:=hp.wrong;have HB9:=hid (HB.out.trans hb9);clear hb9))
       refine bodyPost_ret (v:=.tuple #[.slice none 0 0,.int .i64 p,.int .i64 c]) (by simp [results,Tryz.results25,go_sem]) rfl ?_
       rw [<-HCut.out]
       exact ⟨rfl,HB9.out⟩
   ·have k1:¬(n:Int)<(S.size:Int):=fun h=>hn (Int.ofNat_lt.1 h)
    rw [cut_end (by rw [bl_len];omega)] at hcut
    have HCut:=hid hcut
    clear hcut
    go_wp2_with fail
    go_meet
    case rel=>exact ⟨n,ws,HC.out,HB.out,HCut.out.symm⟩
 case rest=>
 obtain ⟨n,ws,hcs,hb3,hr⟩:=hcut
 have HC3:=hid hcs
 have HB3:=hid hb3
 have HEq:=hid hr
 clear hcs hb3 hr
 generalize wc=w3 at HC3 HB3 ⊢
 obtain ⟨wv,last,rv,vs,k,hm,hf,hkn,hkl⟩:=HC3.out.ex
 have HCl:=hid (close_calls hm (by have h1:=HC3.out.len;have h2:=HC3.out.le;rw [<-hf,fixW_len] at h1;omega) hkn)
 have HF:=hid hf
 clear hm hf hkn hkl
 go_upto_region 12 with (go_at_call 53;refine HCl.out.mono ?_;rintro e w4 ⟨rfl,hcm,hb⟩;have HC4:=hid hcm;have HB4:=hid (HB3.out.trans hb);clear hcm hb)
 rw [HF.out] at HC4
 obtain ⟨A,cap,rfl⟩:=row_forms HC4.out.words
 obtain ⟨c0,c1,c2,c3,c4,c5,cf,clt⟩:=HC4.out.cells
 go_wp2_with fail
 refine bodyPost_ret (v:=.tuple #[.slice A ws.length cap,.int .i64 0,.int .i64 0]) (by simp [results,Tryz.results25,go_sem]) rfl ?_
 rw [HEq.out]
 exact ⟨A,cap,rfl,HC4.out.words,HB4.out⟩
end Pz
end Go.Proofs.YtpfkhdlnjefikaaGreatDoor
