/- Package word. -/
import Derived.Test.YtimcmghhbdfjfaaGreatDoorQPwAS
import Derived.Lib.AppendStr
set_option linter.unusedVariables false
set_option linter.unusedSimpArgs false
set_option maxRecDepth 100000
set_option maxHeartbeats 4000000
namespace Go.Proofs.YtimcmghhbdfjfaaGreatDoor
open Go.RowKit
namespace Pz
theorem small_calls (c:UInt8) (w:World):Calls Tryz.prog 81 #[.int .u8 (c.toNat:Int)] w fun e w'=>e=.returned (.bool (small c))/\Below w.heap.size w w':=by
 have hs:small c=(decide (97<=c.toNat)&&decide (c.toNat<=122)):=rfl;rw [hs];by_cases h1:(97:Int)<=(c.toNat:Int)
 ·by_cases h2:(c.toNat:Int)<=122
  all_goals
   go_enter Tryz.func81,Tryz.ntmps81
   go_wp2_with fail
   all_goals go_ret
   all_goals exact ⟨ret_bool' (by simp;omega),qb _ _⟩
 ·go_enter Tryz.func81,Tryz.ntmps81
  go_wp2_with fail
  all_goals go_ret
  all_goals exact ⟨ret_bool' (by simp;omega),qb _ _⟩
theorem capital_calls (c:UInt8) (w:World):Calls Tryz.prog 82 #[.int .u8 (c.toNat:Int)] w fun e w'=>e=.returned (.bool (capital c))/\Below w.heap.size w w':=by
 have hs:capital c=(decide (65<=c.toNat)&&decide (c.toNat<=90)):=rfl;rw [hs];by_cases h1:(65:Int)<=(c.toNat:Int)
 ·by_cases h2:(c.toNat:Int)<=90
  all_goals
   go_enter Tryz.func82,Tryz.ntmps82
   go_wp2_with fail
   all_goals go_ret
   all_goals exact ⟨ret_bool' (by simp;omega),qb _ _⟩
 ·go_enter Tryz.func82,Tryz.ntmps82
  go_wp2_with fail
  all_goals go_ret
  all_goals exact ⟨ret_bool' (by simp;omega),qb _ _⟩
theorem digit_calls (c:UInt8) (w:World):Calls Tryz.prog 84 #[.int .u8 (c.toNat:Int)] w fun e w'=>e=.returned (.bool (digit c))/\Below w.heap.size w w':=by
 have hs:digit c=(decide (48<=c.toNat)&&decide (c.toNat<=57)):=rfl;rw [hs];by_cases h1:(48:Int)<=(c.toNat:Int)
 ·by_cases h2:(c.toNat:Int)<=57
  all_goals
   go_enter Tryz.func84,Tryz.ntmps84
   go_wp2_with fail
   all_goals go_ret
   all_goals exact ⟨ret_bool' (by simp;omega),qb _ _⟩
 ·go_enter Tryz.func84,Tryz.ntmps84
  go_wp2_with fail
  all_goals go_ret
  all_goals exact ⟨ret_bool' (by simp;omega),qb _ _⟩
theorem small_is {c:UInt8} {b:Bool} (h:small c=b) (w:World):Calls Tryz.prog 81 #[.int .u8 (c.toNat:Int)] w fun e w'=>e=.returned (.bool b)/\Below w.heap.size w w':=h▸small_calls c w
theorem capital_is {c:UInt8} {b:Bool} (h:capital c=b) (w:World):Calls Tryz.prog 82 #[.int .u8 (c.toNat:Int)] w fun e w'=>e=.returned (.bool b)/\Below w.heap.size w w':=h▸capital_calls c w
theorem digit_is {c:UInt8} {b:Bool} (h:digit c=b) (w:World):Calls Tryz.prog 84 #[.int .u8 (c.toNat:Int)] w fun e w'=>e=.returned (.bool b)/\Below w.heap.size w w':=h▸digit_calls c w
theorem alnum_calls (c:UInt8) (w:World):Calls Tryz.prog 99 #[.int .u8 (c.toNat:Int)] w fun e w'=>e=.returned (.bool (alnum c))/\Below w.heap.size w w':=by
 have hs:alnum c=(small c||capital c||digit c):=rfl;rw [hs];cases h1:small c with
 |true=>
  go_enter Tryz.func99,Tryz.ntmps99
  go_wp2_with (first
   |(go_at_call 81;refine (small_is h1 _).mono ?_;rintro e w1 ⟨rfl,hb1⟩))
  all_goals go_ret
  all_goals exact ⟨rfl,hb1⟩
 |false=>
  cases h2:capital c with
  |true=>
   go_enter Tryz.func99,Tryz.ntmps99
   go_wp2_with (first
    |(go_at_call 81;refine (small_is h1 _).mono ?_;rintro e w1 ⟨rfl,hb1⟩)
    |(go_at_call 82;refine (capital_is h2 _).mono ?_;rintro e w2 ⟨rfl,hb2⟩))
   all_goals go_ret
   all_goals exact ⟨rfl,hb1.trans (hb2.mono hb1.size)⟩
  |false=>
   go_enter Tryz.func99,Tryz.ntmps99
   go_wp2_with (first
    |(go_at_call 81;refine (small_is h1 _).mono ?_;rintro e w1 ⟨rfl,hb1⟩)
    |(go_at_call 82;refine (capital_is h2 _).mono ?_;rintro e w2 ⟨rfl,hb2⟩)
    |(go_at_call 84;refine (digit_calls c _).mono ?_;rintro e w3 ⟨rfl,hb3⟩))
   all_goals go_ret
   all_goals exact ⟨ret_bool' (by simp),(hb1.trans (hb2.mono hb1.size)).trans (hb3.mono (qi hb1.size hb2.size))⟩
theorem alnum_is {c:UInt8} {b:Bool} (h:alnum c=b) (w:World):Calls Tryz.prog 99 #[.int .u8 (c.toNat:Int)] w fun e w'=>e=.returned (.bool b)/\Below w.heap.size w w':=h▸alnum_calls c w
abbrev bl (s:ByteArray):List UInt8:=s.data.toList
theorem bl_len (s:ByteArray):(bl s).length=s.size:=Array.length_toList
theorem bl_get (s:ByteArray) (k:Nat) (h:k<s.size):(bl s)[k]? =some s[k]:=by
 rw [List.getElem?_eq_getElem (by rw [bl_len];exact h)];rfl
theorem bl_drop (s:ByteArray) (k:Nat) (h:k<s.size):(bl s).drop k=s[k]::(bl s).drop (k+1):=by
 rw [List.drop_eq_getElem_cons (by rw [bl_len];exact h)];rfl
theorem bytes_extract (s:ByteArray) (a b:Nat):bytes (((bl s).drop a).take (b-a))=s.extract a b:=by
 apply ByteArray.ext;rw [ByteArray.data_extract];unfold bytes bl;apply Array.ext';simp
theorem span_at {p:UInt8->Bool} {s:ByteArray} {k:Nat} (h:k<s.size):span p ((bl s).drop k)=if p s[k] then span p ((bl s).drop (k+1))+1 else 0:=by
 rw [bl_drop s k h,span]
theorem span_end {p:UInt8->Bool} {s:ByteArray} {k:Nat} (h:s.size<=k):span p ((bl s).drop k)=0:=by
 rw [List.drop_eq_nil_of_le (by rw [bl_len];exact h)];rfl
theorem ret_int {a b:Int} (h:a=b):Ending.returned (.int .i64 a)=.returned (.int .i64 b):=by rw [h]
theorem run_calls (s:ByteArray) (hs:s.size<=1048576) (at_ cb:Nat) (hat:at_<=s.size) (w:World) (h0:w.cell? ⟨cb,0,none⟩=some (.string s)):Calls Tryz.prog 102 #[.pointer (some ⟨cb,0,none⟩),.int .i64 (at_:Int)] w fun e w'=>
 e=.returned (.int .i64 ((at_+span alnum ((bl s).drop at_):Nat):Int))/\Below w.heap.size w w':=by
 have HS:=hid hs;have hcb:cb<w.heap.size:=qc _ _ h0;go_enter Tryz.func102,Tryz.ntmps102
 go_wp2_with fail
 go_loopw [1] (fun i wr=>∃ k:Nat,k<=s.size/\i=.int .i64 k/\Below w.heap.size w wr/\Hid (k+span alnum ((bl s).drop k)=at_+span alnum ((bl s).drop at_))) (fun i _=>s.size-(intOf i).toNat)
 case atStart=>exact ⟨at_,hat,rfl,qb _ _,hid rfl⟩
 case round=>
  obtain ⟨w1,hw1⟩:∃ w1,w1=wr:=⟨_,rfl⟩;subst hw1;obtain ⟨k,hk,rfl,hb,hsp⟩:=hrel;have c0:w1.cell? ⟨cb,0,none⟩=some (.string s):=(cell_of_heap (hb.block _ hcb)).trans h0;have HB:=hid hb;have k0:(0:Int)<=(k:Int):=by omega
  clear hb;by_cases hlt:k<s.size
  ·have k1:(k:Int)<(s.size:Int):=by omega
   cases ha:alnum s[k] with
   |true=>
    have hw:wrap64 ((k:Int)+1)=(k:Int)+1:=by have:=HS.out;unfold wrap64;omega
    have HSp:=hid (show k+1+span alnum ((bl s).drop (k+1))=at_+span alnum ((bl s).drop at_) from by
     have:=hsp.out;rw [span_at hlt,ha,if_pos rfl] at this;omega)
    go_wp2_with (first
     |(go_at_call 99;refine (alnum_is ha _).mono ?_;rintro e w2 ⟨rfl,hb2⟩;have HB2:=hid (HB.trans (hb2.mono HB.size));clear hb2))
    go_roundw
    case rel=>exact ⟨k+1,hlt,by go_num,HB2.out,HSp⟩
    case measure=>simp [intOf];omega
   |false=>
    have HSp:=hid (show k=at_+span alnum ((bl s).drop at_) from by
     have:=hsp.out;rw [span_at hlt,ha,if_neg (by simp)] at this;omega)
    go_wp2_with (first
     |(go_at_call 99;refine (alnum_is ha _).mono ?_;rintro e w2 ⟨rfl,hb2⟩;have HB2:=hid (HB.trans (hb2.mono HB.size));clear hb2))
    all_goals go_ret
    all_goals exact ⟨ret_int (by have:=HSp.out;omega),HB2.out⟩
  ·have HSp:=hid (show k=at_+span alnum ((bl s).drop at_) from by
    have:=hsp.out;rw [span_end (by omega)] at this;omega)
   have hnk:¬(k:Int)<(s.size:Int):=by omega
   go_wp2_with fail
   all_goals go_ret
   all_goals exact ⟨ret_int (by have:=HSp.out;omega),HB.out⟩
end Pz
open Go.RowKit Go.WideMaps Go.Maps
namespace Pz
def spA:List (List UInt8):=[[47],[92],[92,46],[126]]
def spB:List (List UInt8):=[[64],[64,58],[64,46],[38],[38,58],[38,46],[38,46,58],[46,46],[58,58],[58,46],[58],[94,58],[34],[96]]
def spC:List (List UInt8):=[[61,46],[61,58],[91,58]]
def spM:List (List UInt8 × Value):=spA.map (fun p=>(p,.int .i64 5))++spB.map (fun p=>(p,.int .i64 6))++spC.map (fun p=>(p,.int .i64 7))
theorem spM_at (k:List UInt8):findS spM k (.int .i64 0)=.int .i64 (kindOf k):=by
 by_cases h:k∈spA++spB++spC
 ·simp only [spA,spB,spC,qe,qff,List.mem_cons,List.not_mem_nil,or_false] at h
  rcases h with rfl|rfl|rfl|rfl|rfl|rfl|rfl|rfl|rfl|rfl|rfl|rfl|rfl|rfl|rfl|rfl|rfl|rfl|rfl|rfl|rfl<;>rfl
 ·have h0:kindOf k=0:=by
   simp only [List.mem_append,not_or] at h
   show (if k∈spA then (5:Int) else if k∈spB then 6 else if k∈spC then 7 else 0)=0
   rw [if_neg h.1.1,if_neg h.1.2,if_neg h.2]
  have hn:spM.reverse.find? (fun e=>e.1==k)=none:=by
   rw [List.find?_eq_none];intro e he hk;have hk:e.1=k:=by simpa using hk
   apply h;rw [<-hk];simp only [spM,List.mem_reverse,List.mem_append,List.mem_map] at he;rcases he with (⟨p,hp,rfl⟩|⟨p,hp,rfl⟩)|⟨p,hp,rfl⟩<;>simp [hp]
  unfold findS;rw [hn,h0];rfl
structure SpRel (w:World) (gb:Nat) (L:List (List UInt8)) (n:Nat) (wr:World):Prop where
 below:Below w.heap.size w wr
 map:wr.ownsMap Tryz.prog 9 Hv w.heap.size n (putS (.map []) (spM.take n))
 lit:∀ (j:Nat) (p:List UInt8),L[j]? =some p->wr.cell? ⟨gb,j,none⟩=some (.string (bytes p))
 gb0:w.heap.size<gb
 gb1:gb<wr.heap.size
theorem SpRel.next {w wr w':World} {gb n:Nat} {L:List (List UInt8)} {p:List UInt8} {v:Value} (h:SpRel w gb L n wr) (hp:spM[n]? =some (p,v)) (hown:w'.ownsMap Tryz.prog 9 Hv w.heap.size (n+1) ((putS (.map []) (spM.take n)).put (.string p) (.held v))) (hg:wr.grownBy w' (some w.heap.size)):SpRel w gb L (n+1) w':=by
 have h0:=h.gb0;refine ⟨h.below.grown hg h.below.size (fun j hj=>by cases hj;exact qa _),?_,fun j p hp=>?_,h.gb0,Nat.lt_of_lt_of_le h.gb1 hg.size⟩
 ·have e:putS (.map []) (spM.take (n+1))=(putS (.map []) (spM.take n)).put (.string p) (.held v):=by
   rw [List.take_add_one,hp];simp [putS]
  rw [e];exact hown
 ·exact (cell_of_heap (hg.block _ h.gb1 (fun e=>by have:=Option.some.inj e;omega))).trans (h.lit j p hp)
theorem grown_b {w w':World} (h:Below w.heap.size w w') (row:Option Nat):w.grownBy w' row:=⟨h.os,h.tape,h.output,h.size,fun k hk _=>h.block k hk⟩
theorem SpRel.begin {w w1:World} {n:Nat} (L:List (List UInt8)) (hb:Below w.heap.size w w1) (hlt:w.heap.size<w1.heap.size) (hm:w1.ownsMap Tryz.prog 9 Hv w.heap.size n (putS (.map []) (spM.take n))) {cs:Array Value} (hcs:cs=(L.map fun p=>Value.string (bytes p)).toArray) (ty:TypeId):SpRel w w1.heap.size L n (w1.alloc (.cells cs ty)):=by
 subst hcs;refine ⟨hb.alloc hb.size _,World.ownsMap.kept hm (grown_b ((qb _ _).alloc (qa _) _) none) (by simp),fun j p hp=>?_,hlt,by simp⟩;rw [World.cell?_alloc_at _ _ _ _ rfl];simp [hp]
theorem SpRel.open {w wr:World} {gb n:Nat} {L:List (List UInt8)} (h:SpRel w gb L n wr):Below w.heap.size w wr/\w.heap.size<wr.heap.size/\wr.ownsMap Tryz.prog 9 Hv w.heap.size n (putS (.map []) (spM.take n)):=⟨h.below,Nat.lt_trans h.gb0 h.gb1,h.map⟩
theorem sp_key (p:List UInt8) (hp:p.length<=4):keyOf Tryz.prog 9 (.string (bytes p))=some (.string p):=key_str p (by unfold maxLen;omega)
theorem spA_len:∀ (j:Nat) (p:List UInt8),spA[j]? =some p->p.length<=4/\spM[0+j]? =some (p,.int .i64 5):=by
 intro j p h;have hj:j<4:=(qn.1 h).1
 match j,hj,h with
 |0,_,h=>cases h;exact ⟨by decide,rfl⟩
 |1,_,h=>cases h;exact ⟨by decide,rfl⟩
 |2,_,h=>cases h;exact ⟨by decide,rfl⟩
 |3,_,h=>cases h;exact ⟨by decide,rfl⟩
theorem spB_len:∀ (j:Nat) (p:List UInt8),spB[j]? =some p->p.length<=4/\spM[4+j]? =some (p,.int .i64 6):=by
 intro j p h;have hj:j<14:=(qn.1 h).1
 match j,hj,h with
 |0,_,h=>cases h;exact ⟨by decide,rfl⟩
 |1,_,h=>cases h;exact ⟨by decide,rfl⟩
 |2,_,h=>cases h;exact ⟨by decide,rfl⟩
 |3,_,h=>cases h;exact ⟨by decide,rfl⟩
 |4,_,h=>cases h;exact ⟨by decide,rfl⟩
 |5,_,h=>cases h;exact ⟨by decide,rfl⟩
 |6,_,h=>cases h;exact ⟨by decide,rfl⟩
 |7,_,h=>cases h;exact ⟨by decide,rfl⟩
 |8,_,h=>cases h;exact ⟨by decide,rfl⟩
 |9,_,h=>cases h;exact ⟨by decide,rfl⟩
 |10,_,h=>cases h;exact ⟨by decide,rfl⟩
 |11,_,h=>cases h;exact ⟨by decide,rfl⟩
 |12,_,h=>cases h;exact ⟨by decide,rfl⟩
 |13,_,h=>cases h;exact ⟨by decide,rfl⟩
theorem spC_len:∀ (j:Nat) (p:List UInt8),spC[j]? =some p->p.length<=4/\spM[18+j]? =some (p,.int .i64 7):=by
 intro j p h;have hj:j<3:=(qn.1 h).1
 match j,hj,h with
 |0,_,h=>cases h;exact ⟨by decide,rfl⟩
 |1,_,h=>cases h;exact ⟨by decide,rfl⟩
 |2,_,h=>cases h;exact ⟨by decide,rfl⟩
theorem sp_meas {L:Nat} {a b:Int} (h:b<a) (h0:0<=b) (hL:b<(L:Int)):L-(intOf (.int .i64 a)).toNat<L-(intOf (.int .i64 b)).toNat:=by simp only [intOf];omega
theorem spelled_calls (w:World):Calls Tryz.prog 53 #[] w fun e w'=>e=.returned (.map (some w.heap.size))/\w'.ownsMap Tryz.prog 9 Hv w.heap.size 21 (putS (.map []) spM)/\Below w.heap.size w w':=by
 have hmm:=@run_makeMap Tryz.prog;have HM:=hid (World.ownsMap_made w Tryz.prog 9 Hv);go_enter Tryz.func53,Tryz.ntmps53
 go_upto_region 2 with fail
 generalize hW0:World.alloc w _=w0;rw [hW0] at HM;have HB0:=hid (show Below w.heap.size w w0/\w.heap.size<w0.heap.size from by rw [<-hW0];exact ⟨(qb _ _).alloc (qa _) _,by simp⟩);clear hW0;go_wp2_with fail
 have HR0:=hid (SpRel.begin spA HB0.out.1 HB0.out.2 HM.out (cs:=#[.string ⟨#[47]⟩,.string ⟨#[92]⟩,.string ⟨#[92,46]⟩,.string ⟨#[126]⟩]) rfl 9)
 go_loopw [11] (fun i wr=>∃ K:Nat,K<=4/\i=.int .i64 K/\SpRel w w0.heap.size spA (0+K) wr) (fun i _=>4-(intOf i).toNat)
 case atStart=>exact ⟨0,by omega,rfl,HR0.out⟩
 case round=>
  obtain ⟨wl,hwl⟩:∃ wl,wl=wr:=⟨_,rfl⟩;subst hwl;obtain ⟨K,hK,rfl,hr⟩:=hrel;have HR:=hid hr;have k0:(0:Int)<=(K:Int):=qj _;by_cases hlt:K<4
  ·obtain ⟨p,hp⟩:∃ p,spA[K]? =some p:=⟨_,List.getElem?_eq_getElem (show K<spA.length from hlt)⟩
   have hc:=hr.lit K p hp;have HP:=hid (spA_len K p hp);have k1:(K:Int)<4:=by omega
   have hw:wrap64 ((K:Int)+1)=(K:Int)+1:=by unfold wrap64;omega
   have HKl:=hid (show K+1<=4 from hlt);clear hr hp;go_wp2_with (at_mapUpdate;go_loud (refine wpList_mapUpdate_own _ rfl _ _ _ 100 rfl 9 3 law_str Tryz.underlying100 Hv w.heap.size _ _ rfl HR.map (by unfold maxLen;omega) _ _ _ rfl rfl (sp_key p HP.out.1) (.held _) [] rfl ?_);intro wi hown hgrow;have HN:=hid (HR.next HP.out.2 hown hgrow);clear hown hgrow)
   go_roundw
   case rel=>first|exact ⟨K+1,HKl.out,by go_num,HN.out⟩|exact ⟨_,_,_,_,_,_,_,_,⟨K+1,HKl.out,by go_num,HN.out⟩,rfl⟩
   case measure=>exact sp_meas (by first|exact Int.lt_succ _|(rw [hw];exact Int.lt_succ _)) k0 k1
  ·obtain rfl:K=4:=by omega
   clear hr hK hlt k0;have HO1:=hid HR.open;clear HR;generalize wl=w1 at HO1 ⊢;go_wp2_with fail
   have HR1:=hid (SpRel.begin spB HO1.out.1 HO1.out.2.1 HO1.out.2.2 (cs:=#[.string ⟨#[64]⟩,.string ⟨#[64,58]⟩,.string ⟨#[64,46]⟩,.string ⟨#[38]⟩,.string ⟨#[38,58]⟩,.string ⟨#[38,46]⟩,.string ⟨#[38,46,58]⟩,.string ⟨#[46,46]⟩,.string ⟨#[58,58]⟩,.string ⟨#[58,46]⟩,.string ⟨#[58]⟩,.string ⟨#[94,58]⟩,.string ⟨#[34]⟩,.string ⟨#[96]⟩]) rfl 9)
   go_loopw [20] (fun i wr=>∃ K:Nat,K<=14/\i=.int .i64 K/\SpRel w w1.heap.size spB (4+K) wr) (fun i _=>14-(intOf i).toNat)
   case atStart=>exact ⟨0,by omega,rfl,HR1.out⟩
   case round=>
    obtain ⟨wl,hwl⟩:∃ wl,wl=wr:=⟨_,rfl⟩;subst hwl;obtain ⟨K,hK,rfl,hr⟩:=hrel;have HR:=hid hr;have k0:(0:Int)<=(K:Int):=qj _;by_cases hlt:K<14
    ·obtain ⟨p,hp⟩:∃ p,spB[K]? =some p:=⟨_,List.getElem?_eq_getElem (show K<spB.length from hlt)⟩
     have hc:=hr.lit K p hp;have HP:=hid (spB_len K p hp);have k1:(K:Int)<14:=by omega
     have hw:wrap64 ((K:Int)+1)=(K:Int)+1:=by unfold wrap64;omega
     have HKl:=hid (show K+1<=14 from hlt);clear hr hp;go_wp2_with (at_mapUpdate;go_loud (refine wpList_mapUpdate_own _ rfl _ _ _ 100 rfl 9 3 law_str Tryz.underlying100 Hv w.heap.size _ _ rfl HR.map (by unfold maxLen;omega) _ _ _ rfl rfl (sp_key p HP.out.1) (.held _) [] rfl ?_);intro wi hown hgrow;have HN:=hid (HR.next HP.out.2 hown hgrow);clear hown hgrow)
     go_roundw
     case rel=>first|exact ⟨K+1,HKl.out,by go_num,HN.out⟩|exact ⟨_,_,_,_,_,_,_,_,⟨K+1,HKl.out,by go_num,HN.out⟩,rfl⟩
     case measure=>exact sp_meas (by first|exact Int.lt_succ _|(rw [hw];exact Int.lt_succ _)) k0 k1
    ·obtain rfl:K=14:=by omega
     clear hr hK hlt k0;have HO2:=hid HR.open;clear HR;generalize wl=w2 at HO2 ⊢;go_wp2_with fail
     have HR2:=hid (SpRel.begin spC HO2.out.1 HO2.out.2.1 HO2.out.2.2 (cs:=#[.string ⟨#[61,46]⟩,.string ⟨#[61,58]⟩,.string ⟨#[91,58]⟩]) rfl 9)
     go_loopw [29] (fun i wr=>∃ K:Nat,K<=3/\i=.int .i64 K/\SpRel w w2.heap.size spC (18+K) wr) (fun i _=>3-(intOf i).toNat)
     case atStart=>exact ⟨0,by omega,rfl,HR2.out⟩
     case round=>
      obtain ⟨wl,hwl⟩:∃ wl,wl=wr:=⟨_,rfl⟩;subst hwl;obtain ⟨K,hK,rfl,hr⟩:=hrel;have HR:=hid hr;have k0:(0:Int)<=(K:Int):=qj _;by_cases hlt:K<3
      ·obtain ⟨p,hp⟩:∃ p,spC[K]? =some p:=⟨_,List.getElem?_eq_getElem (show K<spC.length from hlt)⟩
       have hc:=hr.lit K p hp;have HP:=hid (spC_len K p hp);have k1:(K:Int)<3:=by omega
       have hw:wrap64 ((K:Int)+1)=(K:Int)+1:=by unfold wrap64;omega
       have HKl:=hid (show K+1<=3 from hlt);clear hr hp;go_wp2_with (at_mapUpdate;go_loud (refine wpList_mapUpdate_own _ rfl _ _ _ 100 rfl 9 3 law_str Tryz.underlying100 Hv w.heap.size _ _ rfl HR.map (by unfold maxLen;omega) _ _ _ rfl rfl (sp_key p HP.out.1) (.held _) [] rfl ?_);intro wi hown hgrow;have HN:=hid (HR.next HP.out.2 hown hgrow);clear hown hgrow)
       go_roundw
       case rel=>first|exact ⟨K+1,HKl.out,by go_num,HN.out⟩|exact ⟨_,_,_,_,_,_,_,_,⟨K+1,HKl.out,by go_num,HN.out⟩,rfl⟩
       case measure=>exact sp_meas (by first|exact Int.lt_succ _|(rw [hw];exact Int.lt_succ _)) k0 k1
      ·obtain rfl:K=3:=by omega
       clear hr hK hlt k0;go_wp2_with fail
       go_ret;exact ⟨rfl,HR.map,HR.below⟩
end Pz
open Go.RowKit Go.WideMaps Go.Maps
namespace Pz
def Typed (w:World) (b:Nat) (ty:TypeId):Prop:=∃ cs fz,w.heap[b]? =some (.cells cs ty fz)
theorem Typed.kept {w w':World} {b:Nat} {ty:TypeId} (h:Typed w b ty) (hk:w'.heap[b]? =w.heap[b]?):Typed w' b ty:=by
 obtain ⟨cs,fz,h⟩:=h;exact ⟨cs,fz,hk.trans h⟩
theorem Typed.set {w:World} {b:Nat} {ty:TypeId} (h:Typed w b ty) (q:Addr) (u:Value):Typed (w.setCell q u) b ty:=by
 obtain ⟨cs,fz,h⟩:=h;by_cases hq:q.block=b
 ·refine ⟨if q.spot.isSome then cs else cs.setIfInBounds q.off u,fz,?_⟩
  show (w.heap.modify q.block _)[b]? =_
  rw [Array.getElem?_modify,if_pos hq,h];rfl
 ·exact ⟨cs,fz,(qh _ _ _ _ (fun e=>hq e.symm)).trans h⟩
theorem Typed.ne {w:World} {b c:Nat} {t u:TypeId} (h:Typed w b t) (k:Typed w c u) (htu:t≠u):b≠c:=fun e=>by
 subst e;obtain ⟨cs,fz,h⟩:=h;obtain ⟨ds,fy,k⟩:=k;rw [h] at k
 injection k with k
 injection k with _ k _
 exact htu k
theorem row_typed {w:World} {base:Nat} {e:TypeId} {size n:Nat} {v:Value} {xs:List Value} (h:w.ownsRow base e size v n xs) {g:Nat} (hg:v.ownBlock=some g):Typed w g e:=by
 rcases h.2 with ⟨rfl,_⟩|⟨g',cap,cur,rfl,hb,hgg,_⟩
 ·cases hg
 ·have:g'=g:=by simpa [Value.ownBlock] using hg
  subst this;exact ⟨cur,_,hgg⟩
def wflat (vs:List W):List Value:=vs.flatMap fun v=>(wcells v).toList
theorem wflat_snoc (vs:List W) (v:W):wflat (vs++[v])=wflat vs++(wcells v).toList:=by simp [wflat]
theorem wflat_len (vs:List W):(wflat vs).length=vs.length*3:=by
 unfold wflat;induction vs with
 |nil=>rfl
 |cons v vs ih=>rw [List.flatMap_cons,List.length_append,ih];simp;omega
theorem wflat_at:∀ (vs:List W) (i:Nat) (v:W),vs[i]? =some v->∀ (j:Nat) (c:Value),(wcells v)[j]? =some c->(wflat vs)[i*3+j]? =some c
 |[],i,v,h,_,_,_=>by simp at h
 |x::vs,0,v,h,j,c,hc=>by
  cases h
  have hj:=(Array.getElem?_eq_some_iff.1 hc).1;unfold wflat;rw [List.flatMap_cons,List.getElem?_append_left (by simpa using hj)];simpa using hc
 |x::vs,i+1,v,h,j,c,hc=>by
  have ih:=wflat_at vs i v (by simpa using h) j c hc;unfold wflat at ih ⊢;rw [List.flatMap_cons,List.getElem?_append_right (by simp;omega)];simp only [Array.length_toList,List.size_toArray,List.length_cons,List.length_nil];rw [show (i+1)*3+j-(0+1+1+1)=i*3+j from by omega];exact ih
structure CM (B:Nat) (X:World) (cb mb:Nat) (S:ByteArray) (n:Nat) (wv:Value) (last:Int) (rv:Value) (vs:List W) (k:List UInt8):Prop where
 box:Boxd X cb #[.string S,.int .i64 (n:Int),wv,.map (some mb),.int .i64 last,rv]
 ty:Typed X cb 103
 words:X.ownsRow B 67 3 wv vs.length (wflat vs)
 row:X.ownsRow B 5 1 rv k.length (Lib.strCells (bytes k))
 map:X.ownsMap Tryz.prog 9 Hv mb 21 (putS (.map []) spM)
 cb0:B<=cb
 mb0:B<=mb
theorem map_ne {w:World} {mb b n:Nat} {ty:TypeId} {D:DataW Value} (h:w.ownsMap Tryz.prog 9 Hv mb n D) (k:Typed w b ty):mb≠b:=fun e=>by
 subst e;obtain ⟨es,clock,hb,_⟩:=h;obtain ⟨cs,fz,k⟩:=k;rw [hb] at k;cases k
theorem ownsMap_keep {w w':World} {mb n:Nat} {D:DataW Value} (h:w.ownsMap Tryz.prog 9 Hv mb n D) (hk:w'.heap[mb]? =w.heap[mb]?):w'.ownsMap Tryz.prog 9 Hv mb n D:=by
 obtain ⟨es,clock,hb,F,hs,hD⟩:=h;exact ⟨es,clock,hk.trans hb,F,hs,hD⟩
theorem CM.later {B:Nat} {X X':World} {cb mb:Nat} {S:ByteArray} {n:Nat} {wv rv:Value} {last:Int} {vs:List W} {k:List UInt8} (h:CM B X cb mb S n wv last rv vs k) (hb:Below X.heap.size X X'):CM B X' cb mb S n wv last rv vs k:=
 ⟨h.box.later hb,h.ty.kept (hb.block _ h.box.lt),ownsRow_kept h.words (fun g hg=>hb.block g (ownsRow_lt h.words g hg).2),ownsRow_kept h.row (fun g hg=>hb.block g (ownsRow_lt h.row g hg).2),ownsMap_keep h.map (hb.block _ h.map.lt),h.cb0,h.mb0⟩
section
variable {B:Nat} {X:World} {cb mb:Nat} {S:ByteArray} {n:Nat} {wv rv:Value} {last:Int} {vs:List W} {k:List UInt8} (h:CM B X cb mb S n wv last rv vs k)
include h
theorem CM.w_cb {g:Nat} (hg:wv.ownBlock=some g):g≠cb:=(row_typed h.words hg).ne h.ty (by decide)
theorem CM.m_cb:mb≠cb:=map_ne h.map h.ty
theorem CM.w_m {g:Nat} (hg:wv.ownBlock=some g):mb≠g:=map_ne h.map (row_typed h.words hg)
theorem CM.w_r {g c:Nat} (hg:wv.ownBlock=some g) (hc:rv.ownBlock=some c):g≠c:=(row_typed h.words hg).ne (row_typed h.row hc) (by decide)
theorem CM.set (i:Nat) (u:Value) {n':Nat} {wv' rv':Value} {last':Int} (hd:(#[.string S,.int .i64 (n:Int),wv,.map (some mb),.int .i64 last,rv]:Array Value).setIfInBounds i u=#[.string S,.int .i64 (n':Int),wv',.map (some mb),.int .i64 last',rv']) (hi:i<6) {vs':List W} {k':List UInt8}
 (hw:X.ownsRow B 67 3 wv' vs'.length (wflat vs')) (hr:X.ownsRow B 5 1 rv' k'.length (Lib.strCells (bytes k'))):CM B (X.setCell ⟨cb,i,none⟩ u) cb mb S n' wv' last' rv' vs' k':=by
 refine ⟨by rw [<-hd];exact h.box.put i u (by simpa using hi),h.ty.set _ _,?_,?_,?_,h.cb0,h.mb0⟩
 ·exact ownsRow_kept hw (fun g hg=>qh _ _ _ _ ((row_typed hw hg).ne h.ty (by decide)))
 ·exact ownsRow_kept hr (fun g hg=>qh _ _ _ _ ((row_typed hr hg).ne h.ty (by decide)))
 ·exact ownsMap_keep h.map (qh _ _ _ _ h.m_cb)
theorem CM.grown {w':World} {r:Option Nat} (hg:X.grownBy w' r) (hr:∀ g,r=some g->∃ t,Typed X g t/\t≠103):Boxd w' cb #[.string S,.int .i64 (n:Int),wv,.map (some mb),.int .i64 last,rv]/\Typed w' cb 103/\w'.ownsMap Tryz.prog 9 Hv mb 21 (putS (.map []) spM):=by
 have hcb:w'.heap[cb]? =X.heap[cb]? :=hg.block _ h.box.lt (fun e=>by obtain ⟨t,ht,hne⟩:=hr cb e.symm;exact ht.ne h.ty hne rfl);have hmb:w'.heap[mb]? =X.heap[mb]? :=hg.block _ h.map.lt (fun e=>by obtain ⟨t,ht,_⟩:=hr mb e.symm;exact map_ne h.map ht rfl);exact ⟨h.box.kept hcb hg.size,h.ty.kept hcb,ownsMap_keep h.map hmb⟩
theorem CM.cells:X.cell? ⟨cb,0,none⟩=some (.string S)/\X.cell? ⟨cb,1,none⟩=some (.int .i64 (n:Int))/\X.cell? ⟨cb,2,none⟩=some wv/\X.cell? ⟨cb,3,none⟩=some (.map (some mb))/\X.cell? ⟨cb,4,none⟩=some (.int .i64 last)/\X.cell? ⟨cb,5,none⟩=some rv/\(∀ o,X.frozen? ⟨cb,o,none⟩=false)/\cb<X.heap.size:=
 ⟨h.box.cell 0 _ rfl,h.box.cell 1 _ rfl,h.box.cell 2 _ rfl,h.box.cell 3 _ rfl,h.box.cell 4 _ rfl,h.box.cell 5 _ rfl,h.box.fz,h.box.lt⟩
end
def fixW (vs:List W) (k:List UInt8):List W:=match vs.getLast? with|some v=>if v.kind=1 then vs.dropLast++[{ v with text:=k }] else vs|none=>vs
theorem fixW_nil (k:List UInt8):fixW [] k=[]:=rfl
theorem fixW_snoc (vs:List W) (v:W) (k:List UInt8):fixW (vs++[v]) k=if v.kind=1 then vs++[{ v with text:=k }] else vs++[v]:=by
 unfold fixW;simp
theorem fixW_len (vs:List W) (k:List UInt8):(fixW vs k).length=vs.length:=by
 rcases List.eq_nil_or_concat vs with rfl|⟨l,v,rfl⟩
 ·rfl
 ·rw [List.concat_eq_append,fixW_snoc]
  split<;>simp
theorem fixW_put (vs:List W) (v:W):fixW (vs++[v]) v.text=vs++[v]:=by
 rw [fixW_snoc];split<;>rfl
end Pz
open Go.RowKit Go.WideMaps Go.Maps
namespace Pz
theorem row_forms {w:World} {base:Nat} {e:TypeId} {size n:Nat} {v:Value} {xs:List Value} (h:w.ownsRow base e size v n xs):∃ A cap,v=.slice A n cap:=by
 rcases h.2 with ⟨rfl,rfl⟩|⟨g,cap,_,rfl,_⟩
 ·exact ⟨none,0,rfl⟩
 ·exact ⟨_,cap,rfl⟩
theorem row_bytes {w:World} {B g cap:Nat} {k:List UInt8} (h:w.ownsRow B 5 1 (.slice (some ⟨g,0,none⟩) k.length cap) k.length (Lib.strCells (bytes k))) (src dst:TypeId) (hs:Tryz.prog.underlying src=some (.slice 5)) (hd:Tryz.prog.underlying dst=some .string):
 (convert src dst (.slice (some ⟨g,0,none⟩) k.length cap)).run Tryz.prog w=.ok (.string (bytes k)) w:=by
 refine run_convert_bytes_back w src dst 5 ⟨g,0,none⟩ cap k hs Tryz.underlying5 hd (fun j hj=>?_);have hadd:(⟨g,0,none⟩:Addr).add j=⟨g,j,none⟩:=by unfold Addr.add;split<;>simp_all
 rw [hadd,h.cellAt j (by omega)];simp [Lib.strCells,bytes,hj]
theorem CM.fixed {B:Nat} {w:World} {cb mb g cap:Nat} {S:ByteArray} {n:Nat} {rv:Value} {last:Int} {l:List W} {v:W} {k:List UInt8} (h:CM B w cb mb S n (.slice (some ⟨g,0,none⟩) (l++[v]).length cap) last rv (l++[v]) k) (hk:v.kind=1):
 CM B (w.setCell ⟨g,l.length*3+1,none⟩ (.string (bytes k))) cb mb S n (.slice (some ⟨g,0,none⟩) (l++[v]).length cap) last rv (l++[{ v with text:=k }]) k:=by
 have hgc:g≠cb:=h.w_cb rfl;have hgm:mb≠g:=h.w_m rfl;have hlen:(l++[{ v with text:=k }]).length=(l++[v]).length:=by simp
 refine ⟨h.box.kept (qh _ _ _ _ (fun e=>hgc e.symm)) (by simp [World.setCell]),h.ty.set _ _,?_,ownsRow_kept h.row (fun c hc=>qh _ _ _ _ (fun e=>h.w_r rfl hc e.symm)),ownsMap_keep h.map (qh _ _ _ _ hgm),h.cb0,h.mb0⟩;have:=(h.words.stored (l.length*3+1) (.string (bytes k))).1;rw [hlen];have e:(wflat (l++[v])).set (l.length*3+1) (.string (bytes k))=wflat (l++[{ v with text:=k }]):=by
  rw [wflat_snoc,wflat_snoc,List.set_append_right _ _ (by rw [wflat_len];omega),wflat_len,Nat.add_sub_cancel_left];simp
 rw [e] at this;exact this
theorem close_calls {B:Nat} {w:World} {cb mb:Nat} {S:ByteArray} {n:Nat} {wv rv:Value} {last:Int} {vs:List W} {k:List UInt8} (h:CM B w cb mb S n wv last rv vs k) (hl:vs.length<=1048576) (hk:∀ v,vs.getLast? =some v->v.kind=1->k≠[]):
 Calls Tryz.prog 56 #[.pointer (some ⟨cb,0,none⟩)] w fun e w'=>e=.returned (.tuple #[])/\CM B w' cb mb S n wv last rv (fixW vs k) k/\Below B w w':=by
 obtain ⟨A,cap,rfl⟩:=row_forms h.words;obtain ⟨c0,c1,c2,c3,c4,c5,cf,clt⟩:=h.cells;have H:=hid h;rcases List.eq_nil_or_concat vs with rfl|⟨l,v,rfl⟩
 ·clear hk h hl
  go_enter Tryz.func56,Tryz.ntmps56
  go_wp2_with fail
  refine bodyPost_end (results_none rfl _ _ _) rfl ?_;exact ⟨rfl,H.out,qb _ _⟩
 ·rw [List.concat_eq_append] at*
  have hlen:(l++[v]).length=l.length+1:=by simp
  rw [hlen] at hl c2;obtain ⟨g,rfl⟩:∃ g,A=some ⟨g,0,none⟩:=by
   rcases h.words.2 with ⟨e,h0⟩|⟨g,cap',cur,e,_⟩
   ·rw [hlen] at h0;omega
   ·cases e;exact ⟨g,rfl⟩
  have hcells:∀ (j:Nat) (c:Value),(wcells v)[j]? =some c->w.cell? ⟨g,l.length*3+j,none⟩=some c:=fun j c hc=>by
   have hj:=(Array.getElem?_eq_some_iff.1 hc).1;rw [h.words.cellAt _ (by rw [hlen];simp at hj;omega)];exact wflat_at _ _ v (by simp) j c hc
  have k0:=hcells 0 (.int .i64 v.kind) rfl;have k1:=hcells 1 (.string (bytes v.text)) rfl;rw [Nat.add_zero] at k0;have hw:wrap64 (l.length:Int)=l.length:=wrap_nat (by omega);have i0:(0:Int)<=(l.length:Int):=qj _;have i1:(l.length:Int)<(l.length:Int)+1:=Int.lt_succ _;have hgf:∀ o,w.frozen? ⟨g,o,none⟩=false:=fun o=>h.words.frozenAt o;have hgl:g<w.heap.size:=(ownsRow_lt h.words g rfl).2;have hge:B<=g:=(ownsRow_lt h.words g rfl).1;have hgc:¬g=cb:=h.w_cb rfl;have hgc':¬cb=g:=fun e=>hgc e.symm;by_cases h1:v.kind=1
  ·have d1:(v.kind==1)=true:=by simp [h1]
   have hkn:=hk v (by simp) h1;obtain ⟨A2,cap2,rfl⟩:=row_forms h.row;obtain ⟨g2,rfl⟩:∃ g,A2=some ⟨g,0,none⟩:=by
    rcases h.row.2 with ⟨e,h0⟩|⟨g,cap',cur,e,_⟩
    ·exact absurd (List.length_eq_zero_iff.1 h0) hkn
    ·cases e;exact ⟨g,rfl⟩
   have HC:=hid (row_bytes h.row 79 9 Tryz.underlying79 Tryz.underlying9);have hcv:=(row_bytes (w:=w.drew) h.row 79 9 Tryz.underlying79 Tryz.underlying9);have HF:=hid (show fixW (l++[v]) k=l++[{ v with text:=k }] from by rw [fixW_snoc,if_pos h1]);have HN1:=hid h1;clear hk h hcells h1 hkn;go_enter Tryz.func56,Tryz.ntmps56
   go_wp2_with fail
   go_region
   refine bodyPost_end (results_none rfl _ _ _) rfl ?_;rw [HF.out];exact ⟨rfl,(CM.fixed H.out HN1.out).later (qb _ _).drew,((qb B w).setCell (p:=⟨g,l.length*3+1,none⟩) hge _).drew⟩
  ·have d1:(v.kind==1)=false:=by simp [h1]
   have HF:=hid (show fixW (l++[v]) k=l++[v] from by rw [fixW_snoc,if_neg h1]);clear hk h hcells h1;go_enter Tryz.func56,Tryz.ntmps56
   go_wp2_with fail
   refine bodyPost_end (results_none rfl _ _ _) rfl ?_;exact ⟨rfl,by rw [HF.out];exact H.out,qb _ _⟩
end Pz
end Go.Proofs.YtimcmghhbdfjfaaGreatDoor
