/- The library's contracts that package parse wants, laid at this program. -/
import Derived.Test.YtimcmghhbdfjfaaGreatDoorQShelf
import Derived.Lib.AtoiErrMem
import Derived.Test.YtimcmghhbdfjfaaGreatDoorQPwAB
import Derived.RegionDies
import Derived.Maps.OwnOps
import Derived.Maps.Views
import Derived.Test.YtimcmghhbdfjfaaGreatDoorQTwinA
set_option linter.unusedVariables false
set_option linter.unusedSimpArgs false
set_option maxRecDepth 100000
set_option maxHeartbeats 4000000
namespace Go.Proofs.YtimcmghhbdfjfaaGreatDoor
open Go.RowKit
namespace Pz
theorem split_calls (s:List UInt8) (w:World) (hs:s.length<4294967281) (hv:Vars w):Calls Tryz.prog 153 #[.string (bytes s),.string ⟨#[32]⟩] w fun e w'=>
 e=.returned (.slice (some ⟨w.heap.size,0,none⟩) (splitBlank s).length (splitBlank s).length)/\w'=w.alloc (.cells (((splitBlank s).map fun p=>Value.string (bytes p))).toArray 9):=by
 obtain ⟨m,hm⟩:=hv.ml;have h:=Tryz.strings_Split (bytes s) ⟨#[32]⟩ m w (by simpa [bytes,ByteArray.size] using hs) hm (by decide);have e:=split_blank (bytes s);have hb:∀ b:ByteArray,bytes b.data.toList=b:=fun b=>by simp [bytes]
 have e0:(bytes s).data.toList=s:=by simp [bytes]
 rw [e0] at e;have hlen:(splitBlank s).length=Lib.countB (bytes s) ⟨#[32]⟩+1:=by
  rw [<-e,List.length_map];exact Lib.splitB_all ⟨#[32]⟩ (by decide) 0 _ _ rfl
 refine h.mono ?_;rintro e' w' ⟨rfl,rfl⟩;rw [hlen,<-e,List.map_map];refine ⟨rfl,?_⟩;have hm:(fun b:ByteArray=>Value.string b)=((fun p=>Value.string (bytes p)) ∘ fun b:ByteArray=>b.data.toList):=funext fun b=>by simp [hb]
 rw [<-hm]
theorem replace_calls (s:List UInt8) (w:World) (hs:s.length<=4194304) (hv:Vars w):Calls Tryz.prog 101 #[.string (bytes s),.string ⟨#[95]⟩,.string ⟨#[45]⟩,.int .i64 1] w fun e w'=>
 e=.returned (.string (bytes (Lib.replace s [95] [45] 1)))/\Below w.heap.size w w':=by
 obtain ⟨m,hm⟩:=hv.ml;have hsz:(bytes s).size=s.length:=by simp [bytes,ByteArray.size]
 have e0:(bytes s).data.toList=s:=by simp [bytes]
 have hc:Lib.countB (bytes s) ⟨#[95]⟩=s.count 95:=by
  have:=Lib.count_one 95 (bytes s).data.toList;rw [e0] at this;exact this
 have h:=Tryz.strings_Replace (bytes s) ⟨#[95]⟩ ⟨#[45]⟩ 1 m w (by rw [hsz];omega) hm (by decide) (by
  rw [hsz,hc];have:=List.count_le_length (a:=(95:UInt8)) (l:=s);rw [show (ByteArray.mk #[45]).size=1 from rfl];omega)
 rw [e0] at h;exact h
theorem parse_ok (s:List UInt8) (v:Int) (w:World) (hs:s.length<=4194304) (h:Lib.parseIntB 64 s=.ok v):Calls Tryz.prog 100 #[.string (bytes s),.int .i64 10,.int .i64 64] w fun e w'=>
 e=.returned (.tuple #[.int .i64 v,.nilIface])/\Below w.heap.size w w':=by
 have hsz:(bytes s).size=s.length:=by simp [bytes,ByteArray.size]
 have e0:(bytes s).data.toList=s:=by simp [bytes]
 refine (Tryz.strconv_ParseInt_10_at64_ok (bytes s) (by rw [hsz];omega) v (by rw [e0];exact h) w).mono ?_;rintro e w' ⟨rfl,rfl|⟨t,rfl⟩⟩
 ·exact ⟨rfl,qb _ _⟩
 ·exact ⟨rfl,Lib.bytesWorld_below _ _ _⟩
theorem parse_range (s:List UInt8) (w:World) (hs:s.length<=4194304) (h:Lib.parseIntB 64 s=.range) (hv:Vars w):Calls Tryz.prog 100 #[.string (bytes s),.int .i64 10,.int .i64 64] w fun e w'=>
 (∃ v t p,e=.returned (.tuple #[.int .i64 v,.iface t p]))/\Below w.heap.size w w':=by
 obtain ⟨ev,he,hev⟩:=hv.er;have hsz:(bytes s).size=s.length:=by simp [bytes,ByteArray.size]
 have e0:(bytes s).data.toList=s:=by simp [bytes]
 refine (Tryz.strconv_ParseInt_10_at64_range (bytes s) (by rw [hsz];omega) (by rw [e0];exact h) ev w he hev).mono ?_;rintro e w' ⟨N,rfl,_,_,hb⟩;exact ⟨⟨_,_,_,rfl⟩,hb⟩
theorem prefix_calls (s p:List UInt8) (w:World):Calls Tryz.prog 54 #[.string (bytes s),.string (bytes p)] w fun e w'=>e=.returned (.bool (starts p s))/\w'=w:=by
 have h:=Tryz.strings_HasPrefix (bytes s) (bytes p) w;have e0:∀ s,(bytes s).data.toList=s:=fun s=>by simp [bytes]
 rw [e0,e0,starts_eq] at h;exact h
end Pz
open Go.RowKit
namespace Pz
def CJoint (s:PS) (fn:FuncId) (r:W->Nat->Nat->U->R (T × Nat)) (v:W) (n o:Nat):Prop:=∀ (u:U) (x:UV) (F:List Nat) (w:World),PAt w s n o->UArg w s u x F->Calls Tryz.prog fn #[ptr s,wordV v,x.val] w (PT 61 s F w o (r v n o u))
theorem power_calls {s:PS} {f g:Nat} (hf:CEither s f) (hg:g<=f) (v:W) (n o:Nat) (hD:Deep o) (hn:need s.ws n 3<=g):CJoint s 200 (fun v n o u=>either s.ws s.e g v n o u 38 41) v n o:=by
 intro u x F w hP hu;have HP:=hid hP;have HU:=hid hu;have HL:=hid hu.lt;have HF:=hid (fun W (h:PAt W s n o) (hu:UArg W s u x F)=>hf g hg v n o u x F 38 41 W h hD hu hn (by omega) (by omega));unfold ptr wordV at HF ⊢;simp only [UV.val,UV.cells] at HF ⊢;clear hP hD hn hg hf hu;cases hr:either s.ws s.e g v n o u 38 41 with
 |bad c p=>
  rw [hr] at HF;clear hr;go_enter Tryz.func200,Tryz.ntmps200
  go_upto_region 1 with fail
  generalize hW:World.alloc _ _=w0;obtain ⟨hS,hXW,hXU,hU⟩:=frame HP.out v HU.out w0 hW.symm;have S0:=hid hS;have XW0:=hid hXW;have XU0:=hid hXU;have U0:=hid hU;clear hW hS hXW hXU hU;obtain ⟨xu0c0,xu0c1,xu0c2,xu0c3,xu0c4,xu0c5,xu0c6,xu0c7,xu0c8⟩:=XU0.box.ru x rfl;have xu0cf:=XU0.box.fz;have xu0cl:=XU0.box.lt;obtain ⟨xw0c0,xw0c1,xw0c2⟩:=XW0.box.rv v rfl;have xw0cf:=XW0.box.fz;have xw0cl:=XW0.box.lt;go_wp2_with (first
   |(go_at_call 244;refine (HF.out _ (S0.at_.later (by go_grown)) (U0.later (by go_grown)).arg).mono ?_;intro e w9 hp;replace hp:=PT.from S0.out (by go_grown) hp;obtain ⟨rfl,hA⟩:=hp))
  all_goals exact ⟨rfl,rfl,S0.away.next hA⟩
 |ok r=>
  obtain ⟨t,m⟩:=r;rw [hr] at HF;clear hr;go_enter Tryz.func200,Tryz.ntmps200
  go_upto_region 1 with fail
  generalize hW:World.alloc _ _=w0;obtain ⟨hS,hXW,hXU,hU⟩:=frame HP.out v HU.out w0 hW.symm;have S0:=hid hS;have XW0:=hid hXW;have XU0:=hid hXU;have U0:=hid hU;clear hW hS hXW hXU hU;obtain ⟨xu0c0,xu0c1,xu0c2,xu0c3,xu0c4,xu0c5,xu0c6,xu0c7,xu0c8⟩:=XU0.box.ru x rfl;have xu0cf:=XU0.box.fz;have xu0cl:=XU0.box.lt;obtain ⟨xw0c0,xw0c1,xw0c2⟩:=XW0.box.rv v rfl;have xw0cf:=XW0.box.fz;have xw0cl:=XW0.box.lt;go_wp2_with (first
   |(go_at_call 244;refine (HF.out _ (S0.at_.later (by go_grown)) (U0.later (by go_grown)).arg).mono ?_;intro e w1 hp;replace hp:=PT.from S0.out (by go_grown) hp;obtain ⟨y1,G1,rfl,hO,hG,hP,hA⟩:=hp;have S1:=hid (S0.moved hA hP);have T1:=hid (Tm.new S0.out hO hG HU.ne hA.size (fun b hb=>Nat.lt_of_lt_of_le (U0.old b hb) (qi U0.le U0.hi_)));obtain ⟨c0,c1,c2,c3,c4,c5⟩:=S1.box.rz rfl;have cf:=S1.box.fz;have cl:=S1.box.lt;clear hO hG hP hA;simp only [TV.val,TV.cells]))
  all_goals
   refine bodyPost_ret (v:=y1.val) (by simp [results,Tryz.results200,nodeV,TV.val,TV.cells,c0,c1,c2,c3,c4,c5,cf,go_sem]) rfl ?_;exact T1.ends S1.out S0.box.lt HL.out _ _ _ _ _ _
theorem bond_calls {s:PS} {f g:Nat} (hf:CEither s f) (hb:CBehind s f) (hg:g<=f) (v:W) (n o:Nat) (hD:Deep o) (hn:need s.ws n 3<=g):CJoint s 199 (fun v n o u=>if u.operand then (behind s.ws s.e g n o).andThen fun x=>.ok (made 39 [u.t,x.1],x.2) else either s.ws s.e g v n o u 30 40) v n o:=by
 intro u x F w hP hu;have HP:=hid hP;have HU:=hid hu;have HL:=hid hu.lt;have HF:=hid (fun W (h:PAt W s n o) (hu:UArg W s u x F)=>hf g hg v n o u x F 30 40 W h hD hu hn (by omega) (by omega));have HB:=hid (fun W (h:PAt W s n o)=>hb g hg n o W h hD hn);unfold ptr at HB;unfold ptr wordV at HF ⊢;simp only [UV.val,UV.cells] at HF ⊢;clear hP hD hn hg hf hu hb;cases ho:u.operand with
 |false=>
  rw [if_neg (by simp)];cases hr:either s.ws s.e g v n o u 30 40 with
  |bad c p=>
   rw [hr] at HF;clear hr;go_enter Tryz.func199,Tryz.ntmps199
   go_upto_region 1 with fail
   generalize hW:World.alloc _ _=w0;obtain ⟨hS,hXW,hXU,hU⟩:=frame HP.out v HU.out w0 hW.symm;have S0:=hid hS;have XW0:=hid hXW;have XU0:=hid hXU;have U0:=hid hU;clear hW hS hXW hXU hU;obtain ⟨xu0c0,xu0c1,xu0c2,xu0c3,xu0c4,xu0c5,xu0c6,xu0c7,xu0c8⟩:=XU0.box.ru x rfl;have xu0cf:=XU0.box.fz;have xu0cl:=XU0.box.lt;go_wp2_with (first
    |(go_at_call 244;refine (HF.out _ (S1.at_.later (by go_grown)) (U1.later (by go_grown)).arg).mono ?_;intro e w9 hp;replace hp:=PT.from S1.out (by go_grown) hp;obtain ⟨rfl,hA⟩:=hp)
    |(go_at_call 243;refine (operand_is ho x _ _ (U0.later (by go_grown)).own).mono ?_;rintro e w1 ⟨rfl,hb⟩;have hb0:=hb;have hb:=Start.then S0.out hb (by go_grown);have S1:=hid (S0.later hb);have U1:=hid (U0.later hb);have XU1:=hid (XU0.later hb);have XW1:=hid (XW0.later hb);obtain ⟨xu1c0,xu1c1,xu1c2,xu1c3,xu1c4,xu1c5,xu1c6,xu1c7,xu1c8⟩:=XU1.box.ru x rfl;have xu1cf:=XU1.box.fz;have xu1cl:=XU1.box.lt;obtain ⟨xw1c0,xw1c1,xw1c2⟩:=XW1.box.rv v rfl;have xw1cf:=XW1.box.fz;have xw1cl:=XW1.box.lt;clear hb hb0))
   all_goals exact ⟨rfl,rfl,S1.away.next hA⟩
  |ok r=>
   obtain ⟨t,m⟩:=r;rw [hr] at HF;clear hr;go_enter Tryz.func199,Tryz.ntmps199
   go_upto_region 1 with fail
   generalize hW:World.alloc _ _=w0;obtain ⟨hS,hXW,hXU,hU⟩:=frame HP.out v HU.out w0 hW.symm;have S0:=hid hS;have XW0:=hid hXW;have XU0:=hid hXU;have U0:=hid hU;clear hW hS hXW hXU hU;obtain ⟨xu0c0,xu0c1,xu0c2,xu0c3,xu0c4,xu0c5,xu0c6,xu0c7,xu0c8⟩:=XU0.box.ru x rfl;have xu0cf:=XU0.box.fz;have xu0cl:=XU0.box.lt;go_wp2_with (first
    |(go_at_call 244;refine (HF.out _ (S1.at_.later (by go_grown)) (U1.later (by go_grown)).arg).mono ?_;intro e w2 hp;replace hp:=PT.from S1.out (by go_grown) hp;obtain ⟨y2,G2,rfl,hO,hG,hP,hA⟩:=hp;have S2:=hid (S1.moved hA hP);have T2:=hid (Tm.new S1.out hO hG HU.ne hA.size (fun b hb=>Nat.lt_of_lt_of_le (U1.old b hb) (qi U1.le U1.hi_)));obtain ⟨c0,c1,c2,c3,c4,c5⟩:=S2.box.rz rfl;have cf:=S2.box.fz;have cl:=S2.box.lt;clear hO hG hP hA;simp only [TV.val,TV.cells])
    |(go_at_call 243;refine (operand_is ho x _ _ (U0.later (by go_grown)).own).mono ?_;rintro e w1 ⟨rfl,hb⟩;have hb0:=hb;have hb:=Start.then S0.out hb (by go_grown);have S1:=hid (S0.later hb);have U1:=hid (U0.later hb);have XU1:=hid (XU0.later hb);have XW1:=hid (XW0.later hb);obtain ⟨xu1c0,xu1c1,xu1c2,xu1c3,xu1c4,xu1c5,xu1c6,xu1c7,xu1c8⟩:=XU1.box.ru x rfl;have xu1cf:=XU1.box.fz;have xu1cl:=XU1.box.lt;obtain ⟨xw1c0,xw1c1,xw1c2⟩:=XW1.box.rv v rfl;have xw1cf:=XW1.box.fz;have xw1cl:=XW1.box.lt;clear hb hb0))
   all_goals
    refine bodyPost_ret (v:=y2.val) (by simp [results,Tryz.results199,nodeV,TV.val,TV.cells,c0,c1,c2,c3,c4,c5,cf,go_sem]) rfl ?_;exact T2.ends S2.out (Nat.lt_of_lt_of_le S0.box.lt (qi U1.le U1.hi_)) HL.out _ _ _ _ _ _
 |true=>
  rw [if_pos rfl];cases hr:behind s.ws s.e g n o with
  |bad c p=>
   rw [hr] at HB;clear hr;go_enter Tryz.func199,Tryz.ntmps199
   go_upto_region 1 with fail
   generalize hW:World.alloc _ _=w0;obtain ⟨hS,hXW,hXU,hU⟩:=frame HP.out v HU.out w0 hW.symm;have S0:=hid hS;have XW0:=hid hXW;have XU0:=hid hXU;have U0:=hid hU;clear hW hS hXW hXU hU;obtain ⟨xu0c0,xu0c1,xu0c2,xu0c3,xu0c4,xu0c5,xu0c6,xu0c7,xu0c8⟩:=XU0.box.ru x rfl;have xu0cf:=XU0.box.fz;have xu0cl:=XU0.box.lt;go_wp2_with (first
    |(go_at_call 243;refine (operand_is ho x _ _ (U0.later (by go_grown)).own).mono ?_;rintro e w1 ⟨rfl,hb⟩;have hb0:=hb;have hb:=Start.then S0.out hb (by go_grown);have S1:=hid (S0.later hb);have U1:=hid (U0.later hb);have XU1:=hid (XU0.later hb);have XW1:=hid (XW0.later hb);obtain ⟨xu1c0,xu1c1,xu1c2,xu1c3,xu1c4,xu1c5,xu1c6,xu1c7,xu1c8⟩:=XU1.box.ru x rfl;have xu1cf:=XU1.box.fz;have xu1cl:=XU1.box.lt;clear hb hb0))
   all_goals go_region_dies
   all_goals
    go_wp2_with (first
     |(go_at_call 198;refine (HB.out _ (S1.at_.later (by go_grown))).mono ?_;intro e w9 hp;replace hp:=PT.from S1.out (by go_grown) hp;obtain ⟨rfl,hA⟩:=hp))
   all_goals exact ⟨rfl,rfl,S1.away.next hA⟩
  |ok r=>
   obtain ⟨t,m⟩:=r;rw [hr] at HB;clear hr;go_enter Tryz.func199,Tryz.ntmps199
   go_upto_region 1 with fail
   generalize hW:World.alloc _ _=w0;obtain ⟨hS,hXW,hXU,hU⟩:=frame HP.out v HU.out w0 hW.symm;have S0:=hid hS;have XW0:=hid hXW;have XU0:=hid hXU;have U0:=hid hU;clear hW hS hXW hXU hU;obtain ⟨xu0c0,xu0c1,xu0c2,xu0c3,xu0c4,xu0c5,xu0c6,xu0c7,xu0c8⟩:=XU0.box.ru x rfl;have xu0cf:=XU0.box.fz;have xu0cl:=XU0.box.lt;go_wp2_with (first
    |(go_at_call 243;refine (operand_is ho x _ _ (U0.later (by go_grown)).own).mono ?_;rintro e w1 ⟨rfl,hb⟩;have hb0:=hb;have hb:=Start.then S0.out hb (by go_grown);have S1:=hid (S0.later hb);have U1:=hid (U0.later hb);have XU1:=hid (XU0.later hb);have XW1:=hid (XW0.later hb);obtain ⟨xu1c0,xu1c1,xu1c2,xu1c3,xu1c4,xu1c5,xu1c6,xu1c7,xu1c8⟩:=XU1.box.ru x rfl;have xu1cf:=XU1.box.fz;have xu1cl:=XU1.box.lt;clear hb hb0))
   all_goals
    go_region_with (first
     |(go_at_call 127;obtain ⟨_,TT0,-⟩:=U2.term;refine (made_calls' _ _ _ _ _).mono ?_;rintro e w3 ⟨rfl,hb⟩;have hb0:=hb;have hb:=Start.then S2.out hb (by go_grown);have S3:=hid (S2.later hb);have N3:=hid ((Tm.node2 (k:=39) TT0 T2.out ⟨by omega,by omega⟩ S2.at_.lt U1.hi_).later hb0);obtain ⟨c0,c1,c2,c3,c4,c5⟩:=S3.box.rz rfl;have cf:=S3.box.fz;have cl:=S3.box.lt;clear hb hb0;simp only [nodeV,TV.val,TV.cells])
     |(go_at_call 198;refine (HB.out _ (S1.at_.later (by go_grown))).mono ?_;intro e w2 hp;replace hp:=PT.from S1.out (by go_grown) hp;obtain ⟨y2,G2,rfl,hO,hG,hP,hA⟩:=hp;have S2:=hid (S1.moved hA hP);have T2:=hid (Tm.new S1.out hO hG (by simp) hA.size (by simp));have U2:=hid (U1.moved hA);have XU2:=hid (XU1.moved hA);obtain ⟨xu2c0,xu2c1,xu2c2,xu2c3,xu2c4,xu2c5,xu2c6,xu2c7,xu2c8⟩:=XU2.box.ru x rfl;have xu2cf:=XU2.box.fz;have xu2cl:=XU2.box.lt;clear hO hG hP hA;simp only [TV.val,TV.cells]))
   all_goals go_wp2_with fail
   all_goals
    refine bodyPost_ret (v:=(nodeV 39 0 ⟨#[]⟩ (some ⟨w2.heap.size,0,none⟩) 2 2).val) (by simp [results,Tryz.results199,nodeV,TV.val,TV.cells,c0,c1,c2,c3,c4,c5,cf,go_sem]) rfl ?_;exact N3.ends S3.out S0.box.lt HL.out _ _ _ _ _ _
end Pz
open Go.RowKit Go.WideMaps Go.Maps
namespace Pz
def Hv (v:Value):Option (DataW Value × List MemPlace):=some (.held v,[])
def putS (m:DataW Value) (l:List (List UInt8 × Value)):DataW Value:=l.foldl (fun m e=>m.put (.string e.1) (.held e.2)) m
def findS (l:List (List UInt8 × Value)) (k:List UInt8) (z:Value):Value:=((l.reverse.find? (fun e=>e.1==k)).map (·.2)).getD z
theorem putS_gen (k:List UInt8) (z:DataW Value) (l:List (List UInt8 × Value)):∀ m:DataW Value,IsMap m->(putS m l).atKey (.string k) z=match l.reverse.find? (fun e=>e.1==k) with|some e=>.held e.2|none=>m.atKey (.string k) z:=by
 induction l with
 |nil=>exact fun m _=>rfl
 |cons e l ih=>
  intro m hm;have h:=ih (m.put (.string e.1) (.held e.2)) (hm.put _ _)
  show (putS (m.put (.string e.1) (.held e.2)) l).atKey (.string k) z=_
  rw [h,List.reverse_cons,List.find?_append];cases hf:l.reverse.find? (fun e=>e.1==k) with
  |some x=>rfl
  |none=>
   by_cases he:e.1=k
   ·subst he
    simp [atKey_put_same hm (show WideAt.IsKeyLit (.string e.1) from trivial)]
   ·have:(Lit.string k)≠.string e.1:=fun h=>he (by injection h with h;exact h.symm)
    simp [atKey_put_other this,he]
theorem putS_at (l:List (List UInt8 × Value)) (k:List UInt8) (z:Value):(putS (.map []) l).atKey (.string k) (.held z)=.held (findS l k z):=by
 rw [putS_gen k _ _ _ isMap_empty,findS];cases l.reverse.find? (fun e=>e.1==k)<;>rfl
theorem law_str:Keyed Tryz.prog 9:=string_keyed Tryz.underlying9
theorem key_str (k:List UInt8) (hk:k.length<=maxLen):keyOf Tryz.prog 9 (.string (bytes k))=some (.string k):=by
 unfold bytes;rw [keyOf_string_mk Tryz.underlying9 (show (ByteArray.mk k.toArray).size<=maxLen by simpa [ByteArray.size] using hk)]
theorem lookS {w:World} {mb n:Nat} {l:List (List UInt8 × Value)} {t e:TypeId} {z:Value} (h:w.ownsMap Tryz.prog 9 Hv mb n (putS (.map []) l)) (ht:Tryz.prog.underlying t=some (.map 9 e)) (hz:(zeroValue e).run Tryz.prog w=.ok z w) (k:List UInt8) (hk:k.length<=maxLen):
 (Instr.lookup t (.map (some mb)) (.string (bytes k)) false).run Tryz.prog w=.ok (findS l k z) w:=by
 obtain ⟨v,ps,hrun,hv⟩:=h.lookup law_str ht hz (show Hv z=some (.held z,[]) from rfl) (key_str k hk);rw [putS_at] at hv;have e:v=findS l k z:=by
  simp only [Hv,Option.some.injEq,Prod.mk.injEq] at hv
  injection hv.1
 rw [hrun,e]
theorem wpList_lookup_run {P:Program} (w:World) {ops:Array Oper} {rest:List Oper} {o:Oper} {a:Act} {Q:Exit->Act->World->Prop}
 (hg:o.guard=none) (m x:Operand) (t:TypeId) (hop:o.op=Op.lookup t m x false) (b:Nat) (key v:Value) (hm:a.eval m=.map (some b)) (hx:a.eval x=key)
 (hrun:(Instr.lookup t (.map (some b)) key false).run P w=.ok v w) (hK:wpList P ops Q rest (a.put o.dst v) w):wpList P ops Q (o::rest) a w:=by
 refine wpList_plain hg fun K' hK'=>?_;unfold Oper.wp;simp [execOp,hop,hm,hx,hrun,Result.andThen];exact hK' _ _ hK
theorem wpList_insert_str {H:Type} {P:Program} (w:World) {ops:Array Oper} {rest:List Oper} {o:Oper} {a:Act} {Q:Exit->Act->World->Prop}
 (hg:o.guard=none) (m x v:Operand) (t:TypeId) (hop:o.op=Op.insert t m x v)
 (k e:TypeId) (K:Keyed P k) (ht:P.underlying t=some (.map k e)) (R:Value->Option (DataW H × List MemPlace)) (b n:Nat) (D:DataW H)
 (hm:a.eval m=.map (some b)) (hown:w.ownsMap P k R b n D) (hn:n<maxLen) (key val:Value) (kl:Lit) (hx:a.eval x=key) (hv:a.eval v=val) (hkey:keyOf P k key=some kl)
 (d:DataW H) (ps:List MemPlace) (hval:R val=some (d,ps))
 (hK:∀ w',w'.ownsMap P k R b (n+1) (D.put kl d)->w.grownBy w' (some b)->wpList P ops Q rest (a.put o.dst undef) w'):
 wpList P ops Q (o::rest) a w:=by
 refine wpList_plain hg fun K' hK'=>?_;obtain ⟨w',hrun,r1,r2⟩:=hown.update K ht hn hkey hval;unfold Oper.wp;simp [execOp,hop,hm,hx,hv,hrun,Result.andThen];exact hK' _ _ (hK w' r1 r2)
def advM:List (List UInt8 × Value):=[([47],.int .i64 24),([92],.int .i64 25),([92,46],.int .i64 26),([126],.int .i64 27)]
def advK (t:List UInt8):Int:=if t=[47] then 24 else if t=[92] then 25 else if t=[92,46] then 26 else 27
theorem advK_ok (t:List UInt8):0<=advK t/\advK t<=100:=by unfold advK;(repeat' split)<;>decide
theorem advM_at {t:List UInt8} (h:t∈advL):findS advM t (.int .i64 0)=.int .i64 (advK t):=by
 simp only [advL,List.mem_cons,List.not_mem_nil,or_false] at h;rcases h with rfl|rfl|rfl|rfl<;>rfl
theorem zero_i (w:World):(zeroValue 3).run Tryz.prog w=.ok (.int .i64 0) w:=by kernel_rfl
theorem adverb_calls {s:PS} (v:W) (n o:Nat) (hv5:v.text∈advL) (hlen:v.text.length<=maxLen) (u:U) (x:UV) (F:List Nat) (w:World) (hP:PAt w s n o) (hu:UArg w s u x F):
 Calls Tryz.prog 124 #[wordV v,x.val] w (PT 61 s F w o ((adverb v u).andThen fun t=>.ok (t,n))):=by
 have hmm:=@run_makeMap Tryz.prog;have HP:=hid hP;have HU:=hid hu;have HL:=hid hu.lt;have HK:=hid (And.intro (advM_at hv5) hlen);have HN:=hid (advK_ok v.text);unfold wordV;simp only [UV.val,UV.cells];clear hP hu hv5 hlen;unfold adverb
 show Calls _ _ _ _ (PT _ s F w o ((if u.verb=false then R.bad 32 (v.at_:Int) else .ok (made (advK v.text) [u.t])).andThen fun t=>.ok (t,n)))
 generalize advK v.text=k at HK HN ⊢;cases hv:u.verb with
 |false=>
  rw [if_pos rfl];go_enter Tryz.func124,Tryz.ntmps124
  go_upto_region 1 with fail
  generalize hW:World.alloc _ _=w0;obtain ⟨hS,hXW,hXU,hU⟩:=frame HP.out v HU.out w0 hW.symm;have S0:=hid hS;have XW0:=hid hXW;have XU0:=hid hXU;have U0:=hid hU;clear hW hS hXW hXU hU;obtain ⟨xu0c0,xu0c1,xu0c2,xu0c3,xu0c4,xu0c5,xu0c6,xu0c7,xu0c8⟩:=XU0.box.ru x rfl;have xu0cf:=XU0.box.fz;have xu0cl:=XU0.box.lt;obtain ⟨xw0c0,xw0c1,xw0c2⟩:=XW0.box.rv v rfl;have xw0cf:=XW0.box.fz;have xw0cl:=XW0.box.lt;go_wp2_with (first
   |(go_at_call 27;refine (wrong_calls _ _).mono ?_;rintro e w9 ⟨rfl,rfl⟩)
   |(go_at_call 126;refine (verb_is hv x _ _ (U0.later (by go_grown)).own).mono ?_;rintro e w1 ⟨rfl,hb⟩;have hb0:=hb;have hb:=Start.then S0.out hb (by go_grown);have S1:=hid (S0.later hb);have U1:=hid (U0.later hb);have XW1:=hid (XW0.later hb);obtain ⟨xw1c0,xw1c1,xw1c2⟩:=XW1.box.rv v rfl;have xw1cf:=XW1.box.fz;have xw1cl:=XW1.box.lt;clear hb hb0))
  all_goals exact ⟨rfl,rfl,S1.away⟩
 |true=>
  rw [if_neg (by simp)];go_enter Tryz.func124,Tryz.ntmps124
  go_upto_region 1 with fail
  generalize hW:World.alloc _ _=w0;obtain ⟨hS,hXW,hXU,hU⟩:=frame HP.out v HU.out w0 hW.symm;have S0:=hid hS;have XW0:=hid hXW;have XU0:=hid hXU;have U0:=hid hU;clear hW hS hXW hXU hU;obtain ⟨xu0c0,xu0c1,xu0c2,xu0c3,xu0c4,xu0c5,xu0c6,xu0c7,xu0c8⟩:=XU0.box.ru x rfl;have xu0cf:=XU0.box.fz;have xu0cl:=XU0.box.lt;obtain ⟨xw0c0,xw0c1,xw0c2⟩:=XW0.box.rv v rfl;have xw0cf:=XW0.box.fz;have xw0cl:=XW0.box.lt;go_wp2_with (first
   |(go_at_call 127;obtain ⟨_,TT0,-⟩:=U2.term;refine (made_calls' _ _ _ _ _).mono ?_;rintro e w3 ⟨rfl,hb⟩;have hb0:=hb;have hb:=Start.then S2.out hb (by go_grown);have S3:=hid (S2.later hb);have N3:=hid ((Tm.node1 (k:=k) TT0 HN.out S2.at_.lt).later hb0);obtain ⟨c0,c1,c2,c3,c4,c5⟩:=S3.box.rz rfl;have cf:=S3.box.fz;have cl:=S3.box.lt;clear hb hb0;simp only [nodeV,TV.val,TV.cells])
   |(at_lookup;refine wpList_lookup_run _ rfl _ _ 100 rfl w1.heap.size _ (.int .i64 k) rfl rfl (by have h:=lookS (l:=advM) HM.out Tryz.underlying100 (zero_i _) v.text HK.out.2;rw [HK.out.1] at h;exact h) ?_;clear HM;have S2:=hid (S1.later HQ.out);have U2:=hid (U1.later HQ.out))
   |(refine wpList_insert_str _ rfl _ _ _ 100 rfl 9 3 law_str Tryz.underlying100 Hv w1.heap.size _ _ rfl HM.out (by unfold maxLen;decide) _ _ _ rfl rfl (keyOf_string_mk Tryz.underlying9 (by unfold maxLen;decide)) (.held _) [] rfl ?_;intro w2 hown hgrow;have HQ2:=hid (HQ.grown hgrow HQ.size (fun j hj=>by cases hj;exact qa _));clear HQ HM;have HQ:=HQ2;have HM:=hid hown;clear hown hgrow HQ2;(try clear xuc0 xuc1 xuc2 xuc3 xuc4 xuc5 wc1);have XUq:=XU1.later HQ.out;have wc1:=(XW1.later HQ.out).box.cell 1 (.string (bytes v.text)) rfl;obtain ⟨xuc0,xuc1,xuc2,xuc3,xuc4,xuc5⟩:=XUq.box.r6 (.int .i64 x.t.kind) (.string x.t.text) (.int .i64 x.t.n) (.slice x.t.sa x.t.sl x.t.sc) (.slice x.t.aa x.t.al x.t.ac) (.slice x.t.ka x.t.kl x.t.kc) rfl;clear XUq)
   |(go_at_call 126;refine (verb_is hv x _ _ (U0.later (by go_grown)).own).mono ?_;rintro e w1 ⟨rfl,hb⟩;have S1:=hid (S0.later hb);have U1:=hid (U0.later hb);have XU1:=hid (XU0.later hb);have XW1:=hid (XW0.later hb);clear hb;have HM:=hid (World.ownsMap_made w1 Tryz.prog 9 Hv);have HQ:=hid ((qb w1.heap.size w1).alloc (qa _) (.map #[] 0))))
  all_goals
   refine bodyPost_ret (v:=(nodeV k 0 ⟨#[]⟩ (some ⟨w2.heap.size,0,none⟩) 1 1).val) (by simp [results,Tryz.results124,nodeV,TV.val,TV.cells,c0,c1,c2,c3,c4,c5,cf,go_sem]) rfl ?_;exact N3.ends S3.out S0.box.lt HL.out _ _ _ _ _ _
end Pz
open Go.RowKit
namespace Pz
theorem number_calls (p:List UInt8) (hp:NumOk p) (hne:p≠[95]) (hl:p.length<=2097152) (w:World) (hv:Vars w):Calls Tryz.prog 154 #[.string (bytes p)] w fun e w'=>e=.returned (.int .i64 (numberOf p))/\Below w.heap.size w w':=by
 obtain ⟨ds,hds,hn,hd,hr⟩:=hp.resolve_left hne;have h:=parse_number hds hn hd;rw [if_pos hr] at h;have hlen:(Lib.replace p [95] [45] 1).length<=4194304:=by
  rcases hds with rfl|rfl
  ·rw [replace_plain _ hd];omega
  ·rw [replace_sign];simp at hl ⊢;omega
 have HR:=hid (replace_calls p w (by omega) hv);have HP:=hid (fun W=>parse_ok _ _ W hlen h);clear h hlen hr hd hn hds hv hne hp hl ds;go_enter Tryz.func154,Tryz.ntmps154
 go_wp2_with (first
  |(go_at_call 101;refine HR.mono ?_;rintro e w1 ⟨rfl,hb1⟩)
  |(go_at_call 100;refine (HP.out _).mono ?_;rintro e w2 ⟨rfl,hb2⟩))
 all_goals go_ret
 all_goals exact ⟨rfl,Below_next hb1 hb2⟩
end Pz
open Go.RowKit
namespace Pz
theorem Boxd.set {w:World} {b:Nat} {cs:Array Value} (h:Boxd w b cs) (k:Nat) (u:Value) {ds:Array Value} (hk:(cs[k]?).isSome=true) (hd:∀ i x,ds[i]? =some x->if i=k then x=u else cs[i]? =some x):Boxd (w.setCell ⟨b,k,none⟩ u) b ds:=by
 obtain ⟨y,hy⟩:=Option.isSome_iff_exists.1 hk;have hc:=h.cell k y hy;refine ⟨fun i x hx=>?_,fun o=>?_,by simpa [World.setCell] using h.lt⟩
 ·have hx:=hd i x hx
  by_cases hi:i=k
  ·subst hi
   rw [if_pos rfl] at hx;subst hx;simp [go_sem,hc,h.fz]
  ·rw [if_neg hi] at hx
   have:=h.cell i x hx;have hi':¬k=i:=fun e=>hi e.symm;simp [go_sem,this,hi,hi']
 ·simp [go_sem,h.fz]
theorem ownsRow_lt {w:World} {base:Nat} {e:TypeId} {size n:Nat} {v:Value} {xs:List Value} (h:w.ownsRow base e size v n xs):∀ g,v.ownBlock=some g->base<=g/\g<w.heap.size:=by
 intro g hg;rcases h.2 with ⟨rfl,_⟩|⟨g',cap,cur,rfl,hb,hgg,_⟩
 ·cases hg
 ·have:g'=g:=by simpa [Value.ownBlock] using hg
  subst this;exact ⟨hb,(Array.getElem?_eq_some_iff.1 hgg).1⟩
structure Acc (w3:World) (sb:Nat) (ps:List (List UInt8)) (xs:List Int) (cs:Value->Array Value) (K:Nat) (v:Value) (wr:World):Prop where
 below:Below w3.heap.size w3 wr
 box:Boxd wr w3.heap.size (cs v)
 strs:∀ (j:Nat) (p:List UInt8),ps[j]? =some p->wr.cell? ⟨sb,j,none⟩=some (.string (bytes p))
 sb0:w3.heap.size<sb
 sb1:sb<wr.heap.size
 row:wr.ownsRow (sb+1) 2 1 v K ((xs.take K).map (Value.int .i64))
theorem Acc.start (w3:World) (cs:Value->Array Value) (ps:List (List UInt8)) (xs:List Int) (ty:TypeId):Acc w3 (w3.heap.size+1) ps xs cs 0 (.slice none 0 0) ((w3.alloc (.cells (cs (.slice none 0 0)) ty)).alloc (.cells (ps.map fun p=>Value.string (bytes p)).toArray 9)):=by
 have hb1:=Boxd.new w3 (cs (.slice none 0 0)) ty;refine ⟨((qb _ _).alloc (qa _) _).alloc (by simp) _,hb1.alloc _,fun j p hp=>?_,Nat.lt_succ_self _,by simp,World.ownsRow_nil _ _ _ _⟩;have:(w3.alloc (.cells (cs (.slice none 0 0)) ty)).heap.size=w3.heap.size+1:=by simp
 rw [<-this,World.cell?_alloc_at _ _ _ _ rfl];simp [hp]
theorem Acc.later {w3:World} {sb:Nat} {ps:List (List UInt8)} {xs:List Int} {cs:Value->Array Value} {K:Nat} {v:Value} {wr w':World} (h:Acc w3 sb ps xs cs K v wr) (hb:Below wr.heap.size wr w'):Acc w3 sb ps xs cs K v w':=
 ⟨Below_next h.below hb,h.box.later hb,fun j p hp=>(cell_of_heap (hb.block _ h.sb1)).trans (h.strs j p hp),h.sb0,Nat.lt_of_lt_of_le h.sb1 hb.size,ownsRow_kept h.row (fun g hg=>hb.block g (ownsRow_lt h.row g hg).2)⟩
def Fifth (cs:Value->Array Value):Prop:=∀ v v',((cs v)[4]?).isSome=true/\∀ i x,(cs v')[i]? =some x->if i=4 then x=v' else (cs v)[i]? =some x
theorem Acc.step {w3:World} {sb:Nat} {ps:List (List UInt8)} {xs:List Int} {cs:Value->Array Value} {K:Nat} {v:Value} {wr w':World} {x:Int} {g cap:Nat} (h:Acc w3 sb ps xs cs K v wr) (hf:Fifth cs) (hx:xs[K]? =some x)
 (hown:w'.ownsRow (sb+1) 2 1 (.slice (some ⟨g,0,none⟩) (K+1) cap) (K+1) ((xs.take K).map (Value.int .i64)++[.int .i64 x])) (hg:wr.grownBy w' v.ownBlock):
 Acc w3 sb ps xs cs (K+1) (.slice (some ⟨g,0,none⟩) (K+1) cap) (w'.setCell ⟨w3.heap.size,4,none⟩ (.slice (some ⟨g,0,none⟩) (K+1) cap)):=by
 have hgb:=ownsRow_lt hown g rfl;have h0:=h.sb0;have h1:=h.sb1;have hne:∀ k,v.ownBlock=some k->sb<k:=fun k hk=>(ownsRow_lt h.row k hk).1;have hkb:w'.heap[w3.heap.size]? =wr.heap[w3.heap.size]? :=hg.block _ (by omega) (fun e=>by have:=hne _ e.symm;omega);have hks:w'.heap[sb]? =wr.heap[sb]? :=hg.block _ h1 (fun e=>by have:=hne _ e.symm;omega);have hbox:=h.box.kept hkb hg.size;refine ⟨((h.below.grown hg (by have:=h.below.size;omega) (fun k hk=>by have:=hne k hk;omega)).setCell (qa _) _),hbox.set 4 _ (hf v v).1 (hf v _).2,fun j p hp=>?_,h0,?_,?_⟩
 ·refine (cell_of_heap (qh _ _ _ _ (by show sb≠w3.heap.size;omega))).trans ((cell_of_heap hks).trans (h.strs j p hp))
 ·have:=hg.size;simp [World.setCell];omega
 ·refine ownsRow_kept ?_ (fun g' hg'=>qh _ _ _ _ ?_)
  ·have e:(xs.take (K+1)).map (Value.int .i64)=(xs.take K).map (Value.int .i64)++[.int .i64 x]:=by
    rw [List.take_add_one,hx];simp
   rw [e];exact hown
  ·have:g=g':=by simpa [Value.ownBlock] using hg'
   show g'≠w3.heap.size
   omega
theorem Acc.form {w3:World} {sb:Nat} {ps:List (List UInt8)} {xs:List Int} {cs:Value->Array Value} {K:Nat} {v:Value} {wr:World} (h:Acc w3 sb ps xs cs K v wr) (hK:K=xs.length) (h0:0<K):∃ g cap,v=.slice (some ⟨g,0,none⟩) K cap/\OwnI wr 2 (some ⟨g,0,none⟩) K cap xs [g]/\sb<g/\g<wr.heap.size/\K<=cap/\cap<=maxLen:=by
 obtain ⟨g,cap,rfl,_,_⟩:=h.row.form h0;have hr:=h.row;rw [hK,List.take_length] at hr;obtain ⟨h1,h2,h3,h4,h5⟩:=ownI_of_row hr;rw [hK];exact ⟨g,cap,rfl,h1,h2,h3,h5,h4⟩
theorem own_nums {w:World} {k n:Int} {s:ByteArray} {l:List T} {A:Option Addr} {len cap:Nat} {G:List Nat} (h:Own w (.mk k s n [] [] l) (nodeV k n s A len cap) G) {sa aa:Option Addr} {sl sc al ac:Nat} {sh a:List Int} {F1 F2:List Nat} (h1:OwnI w 3 sa sl sc sh F1) (h2:OwnI w 2 aa al ac a F2)
 (b1:sl<=17592186044416) (b2:al<=17592186044416) (b3:sl<=sc) (b4:sc<=maxLen) (b5:al<=ac) (b6:ac<=maxLen):Own w (.mk k s n sh a l) ⟨k,s,n,sa,sl,sc,aa,al,ac,A,len,cap⟩ (F1++F2++G):=by
 simp only [Own] at h ⊢;obtain ⟨hw,hk,hs,hn,hl,G1,G2,G3,G4,rfl,g1,g2,g3,g4⟩:=h;have e1:G1=[]:=by
  rcases g1.2.1 with ⟨_,_,rfl⟩|⟨b,cur,e,_⟩
  ·rfl
  ·cases e
 have e2:G2=[]:=by
  rcases g2.2.1 with ⟨_,_,rfl⟩|⟨b,cur,e,_⟩
  ·rfl
  ·cases e
 subst e1 e2;exact ⟨⟨hw.k0,hw.k1,hw.n0,hw.n1,hw.ts,b3,b5,hw.l0,b1,b2,hw.l1,b4,b6,hw.l2⟩,trivial,trivial,trivial,hl,F1,F2,G3,G4,by simp,h1,h2,g3,g4⟩
theorem heap_new (w:World) (o:Obj):(w.alloc o).heap[w.heap.size]? =some o:=by show (w.heap.push o)[w.heap.size]? =_;simp
theorem heap_new_size (w:World) (o:Obj):(w.alloc o).heap.size=w.heap.size+1:=by simp
theorem Tm.nums {s:PS} {F:List Nat} {lo hi:Nat} {w6 wr:World} {k:Int} {l:List T} {A:Option Addr} {len cap0:Nat} {G:List Nat} {sb:Nat} {ps:List (List UInt8)} {xs:List Int} {cs:Value->Array Value} {K:Nat} {v:Value} (T1:Tm s F lo hi w6 (.mk k ⟨#[]⟩ 0 [] [] l) (nodeV k 0 ⟨#[]⟩ A len cap0) G) (hA:Acc w6 sb ps xs cs K v wr) (hK:K=xs.length) (h0:0<K) (hm:K<=17592186044416) (hp:s.pb<w6.heap.size):
 ∃ g cap,v=.slice (some ⟨g,0,none⟩) K cap/\∀ w8,w8=(wr.setCell ⟨w6.heap.size,3,none⟩ (.slice (some ⟨wr.heap.size,0,none⟩) 1 1)).alloc (.cells #[.int .i64 (K:Int)] 3)->
  Below w6.heap.size w6 w8/\Tm s F lo (wr.heap.size+1) w8 (.mk k ⟨#[]⟩ 0 [(xs.length:Int)] xs l) ⟨k,⟨#[]⟩,0,some ⟨wr.heap.size,0,none⟩,1,1,some ⟨g,0,none⟩,K,cap,A,len,cap0⟩ (wr.heap.size::g::G):=by
 obtain ⟨g,cap,rfl,hI,hg1,hg2,hc1,hc2⟩:=hA.form hK h0;refine ⟨g,cap,rfl,fun w8 hw=>?_⟩;have s0:=hA.sb0;have s1:=hA.sb1;have e1:(wr.setCell ⟨w6.heap.size,3,none⟩ (.slice (some ⟨wr.heap.size,0,none⟩) 1 1)).heap.size=wr.heap.size:=by simp [World.setCell]
 have hb1:Below w6.heap.size w6 (wr.setCell ⟨w6.heap.size,3,none⟩ (.slice (some ⟨wr.heap.size,0,none⟩) 1 1)):=hA.below.setCell (qa _) _;have hb:Below w6.heap.size w6 w8:=by rw [hw];exact hb1.alloc (by rw [e1];omega) _
 have hsz:w8.heap.size=wr.heap.size+1:=by rw [hw];have:=heap_new_size (wr.setCell ⟨w6.heap.size,3,none⟩ (.slice (some ⟨wr.heap.size,0,none⟩) 1 1)) (.cells #[.int .i64 (K:Int)] 3);rw [this,e1]
 refine ⟨hb,?_⟩;have T2:=T1.later hb;have hgk:w8.heap[g]? =wr.heap[g]? :=by
  rw [hw,Below.heap_alloc _ _ _ (by rw [e1];exact hg2),qh _ _ _ _ (by show g≠w6.heap.size;omega)]
 have hI8:=hI.kept (w':=w8) (fun b hb=>by have:b=g:=by simpa using hb
                                          subst this;exact hgk)
 have hS8:OwnI w8 3 (some ⟨wr.heap.size,0,none⟩) 1 1 [(xs.length:Int)] [wr.heap.size]:=by
  have hblk:w8.heap[wr.heap.size]? =some (.cells #[.int .i64 (K:Int)] 3 (0,0)):=by
   have:=heap_new (wr.setCell ⟨w6.heap.size,3,none⟩ (.slice (some ⟨wr.heap.size,0,none⟩) 1 1)) (.cells #[.int .i64 (K:Int)] 3);rw [e1] at this;rw [hw];exact this
  refine ⟨rfl,.inr ⟨wr.heap.size,_,rfl,rfl,hblk,qa _,by unfold maxLen;decide,by simp⟩,fun b e i u hu=>?_⟩;have:wr.heap.size=b:=by simpa using e
  subst this;have hi:i=0:=by have:=(qn.1 hu).1;simpa using this
  subst hi;have hu:(xs.length:Int)=u:=by simpa using hu
  rw [cell_of_row w8 _ _ _ _ _ hblk,<-hu,<-hK];rfl
 have ho:=own_nums T2.own hS8 hI8 (by decide) hm (qa _) (by unfold maxLen;decide) hc1 hc2;have hle:=T1.le;have hhi:=T1.hi_;have hF:∀ c∈F,c<w6.heap.size:=fun c hc=>by have:=T1.old c hc;omega
 have hf1:=T1.from_.cons (b:=g) (hi':=g+1) (by omega) (Nat.lt_succ_self _) (by omega) (fun c hc=>by have:=hF c hc;omega);have hf2:=hf1.cons (b:=wr.heap.size) (hi':=wr.heap.size+1) (by omega) (Nat.lt_succ_self _) (by omega) (fun c hc=>by have:=hF c hc;omega);refine ⟨by simpa using ho,hf2,by omega,fun h=>?_,by omega,T1.old⟩;rcases List.mem_cons.1 h with h|h
 ·omega
 ·rcases List.mem_cons.1 h with h|h
  ·omega
  ·exact T1.np h
theorem splitBlank_mem_len:∀ (l p:List UInt8),p∈splitBlank l->p.length<=l.length
 |[],p,h=>by simp [splitBlank] at h;subst h;simp
 |c::r,p,h=>by
  have ih:=splitBlank_mem_len r;rw [splitBlank] at h;split at h
  ·simp at h;subst h;simp
  ·rename_i q t e
   split at h
   ·rcases List.mem_cons.1 h with rfl|h
    ·simp
    ·have:=ih p (by rw [e];exact h);simp;omega
   ·rcases List.mem_cons.1 h with rfl|h
    ·have:=ih q (by rw [e];simp);simp;omega
    ·have:=ih p (by rw [e];simp [h]);simp;omega
theorem splitBlank_len:∀ l:List UInt8,(splitBlank l).length<=l.length+1
 |[]=>by simp [splitBlank]
 |c::r=>by
  have ih:=splitBlank_len r;rw [splitBlank];split
  ·simp
  ·rename_i q t e
   rw [e] at ih;split<;>(simp at ih ⊢;omega)
end Pz
end Go.Proofs.YtimcmghhbdfjfaaGreatDoor
