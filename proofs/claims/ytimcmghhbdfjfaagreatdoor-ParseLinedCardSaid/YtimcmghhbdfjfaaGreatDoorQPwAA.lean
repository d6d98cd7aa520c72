/- Package parse. -/
import Derived.Test.YtimcmghhbdfjfaaGreatDoorQPmA
import Derived.Handy
import Derived.Test.YtimcmghhbdfjfaaGreatDoorQTermA
import Derived.Deep.RegionHeld3
import Derived.Deep.RegionWith
import Derived.Deep.DeepCutAuto
set_option linter.unusedVariables false
set_option linter.unusedSimpArgs false
set_option maxRecDepth 100000
set_option maxHeartbeats 1000000
namespace Go.Proofs.YtimcmghhbdfjfaaGreatDoor
open Go.RowKit
namespace Pz
theorem bcell' {W w1:World} (hb:Below W.heap.size W w1):(∀ b o,b<W.heap.size->w1.cell? ⟨b,o,none⟩=W.cell? ⟨b,o,none⟩)/\(∀ b o,b<W.heap.size->w1.frozen? ⟨b,o,none⟩=W.frozen? ⟨b,o,none⟩):=
 ⟨fun b o h=>hb.cell (p:=⟨b,o,none⟩) h,fun b o h=>hb.frozen (p:=⟨b,o,none⟩) h⟩
theorem ret_bool' {a b:Bool} (h:a=b):Ending.returned (.bool a)=.returned (.bool b):=by rw [h]
theorem _root_.Go.Proofs.YtimcmghhbdfjfaaGreatDoor.PAt.word {w:World} {s:PS} {n o:Nat} (h:PAt w s n o) {v:W} (hv:s.ws[n]? =some v):
 s.wa=some ⟨s.wb,0,none⟩/\w.cell? ⟨s.wb,n*3,none⟩=some (.int .i64 v.kind)/\w.cell? ⟨s.wb,n*3+1,none⟩=some (.string (bytes v.text))/\w.cell? ⟨s.wb,n*3+2,none⟩=some (.int .i64 (v.at_:Int)):=h.words.at_ n v hv
theorem wrong_calls (p:Int) (w:World):Calls Tryz.prog 27 #[.int .i64 p] w fun e w'=>e=.panicked [faultEntry 61 32 p]/\w'=w:=by
 go_enter Tryz.func27,Tryz.ntmps27
 go_wp2_with fail
 exact ⟨rfl,rfl,rfl⟩
theorem place_calls (s:PS) (n o:Nat) (w:World) (h:PAt w s n o):Calls Tryz.prog 29 #[.pointer (some ⟨s.pb,0,none⟩)] w fun e w'=>e=.returned (.int .i64 (place s.ws s.e n))/\Below w.heap.size w w':=by
 have h0:=h.c0;have h1:=h.c1;have h2:=h.c2;by_cases hn:n<s.ws.length
 ·obtain ⟨v,hv⟩:∃ v,s.ws[n]? =some v:=⟨_,List.getElem?_eq_getElem hn⟩
  obtain ⟨e,k0,k1,k2⟩:=h.word hv;have hp:place s.ws s.e n=v.at_:=by unfold place;rw [hv]
  rw [hp];rw [e] at h0;clear hp;have HV:=hid hv;clear hv e;go_enter Tryz.func29,Tryz.ntmps29
  go_wp2_with fail
  go_quiet (fail);go_wp2_with fail
  go_quiet (fail);go_wp2_with fail
  go_ret;exact ⟨rfl,below_drewN (below_drewN (qb _ _) _) _⟩
 ·have hp:place s.ws s.e n=s.e:=by unfold place;rw [List.getElem?_eq_none (by omega)]
  rw [hp];clear hp;go_enter Tryz.func29,Tryz.ntmps29
  go_wp2_with fail
  go_quiet (fail);go_wp2_with fail
  go_ret;exact ⟨rfl,below_drewN (qb _ _) _⟩
end Pz
open Go.RowKit
namespace Pz
theorem bytes_beq (a b:List UInt8):((bytes a).toList==(bytes b).toList)=(a==b):=by
 rw [ByteArray.toList_eq,ByteArray.toList_eq];simp [bytes]
theorem sees_calls (s:PS) (n o:Nat) (l:List UInt8) (w:World) (h:PAt w s n o):Calls Tryz.prog 122 #[.pointer (some ⟨s.pb,0,none⟩),.string (bytes l)] w fun e w'=>e=.returned (.bool (sees s.ws n l))/\Below w.heap.size w w':=by
 have h0:=h.c0;have h1:=h.c1;by_cases hn:n<s.ws.length
 ·obtain ⟨v,hv⟩:∃ v,s.ws[n]? =some v:=⟨_,List.getElem?_eq_getElem hn⟩
  obtain ⟨e,k0,k1,k2⟩:=h.word hv;have hp:sees s.ws n l=(v.kind==7&&v.text==l):=by unfold sees;rw [hv]
  have hq:=bytes_beq v.text l;rw [hp];rw [e] at h0;clear hp hv e;by_cases h7:v.kind=7
  ·have d7:(v.kind==7)=true:=by simp [h7]
   rw [d7];go_enter Tryz.func122,Tryz.ntmps122
   go_wp2_with fail
   go_quiet (fail);go_wp2_with fail
   go_ret;exact ⟨ret_bool' (by rw [Bool.true_and,<-hq]),below_drewN (qb _ _) _⟩
  ·have d7:(v.kind==7)=false:=by simp [h7]
   rw [d7];go_enter Tryz.func122,Tryz.ntmps122
   go_wp2_with fail
   go_quiet (fail);go_wp2_with fail
   go_ret;exact ⟨rfl,below_drewN (qb _ _) _⟩
 ·have hp:sees s.ws n l=false:=by unfold sees;rw [List.getElem?_eq_none (by omega)]
  rw [hp];clear hp;go_enter Tryz.func122,Tryz.ntmps122
  go_wp2_with fail
  go_quiet (fail);go_wp2_with fail
  go_ret;exact ⟨rfl,below_drewN (qb _ _) _⟩
theorem tie_calls (s:PS) (n o:Nat) (w:World) (h:PAt w s n o):Calls Tryz.prog 240 #[.pointer (some ⟨s.pb,0,none⟩)] w fun e w'=>e=.returned (.bool (tie s.ws n))/\Below w.heap.size w w':=by
 have h0:=h.c0;have h1:=h.c1;by_cases hn:n<s.ws.length
 ·obtain ⟨v,hv⟩:∃ v,s.ws[n]? =some v:=⟨_,List.getElem?_eq_getElem hn⟩
  obtain ⟨e,k0,k1,k2⟩:=h.word hv;have hp:tie s.ws n=(v.kind==6&&v.text==[96]):=by unfold tie;rw [hv]
  have hq:=bytes_beq v.text [96];rw [hp];rw [e] at h0;clear hp hv e;by_cases h7:v.kind=6
  ·have d7:(v.kind==6)=true:=by simp [h7]
   rw [d7];go_enter Tryz.func240,Tryz.ntmps240
   go_wp2_with fail
   go_quiet (fail);go_wp2_with fail
   go_ret;exact ⟨ret_bool' (by rw [Bool.true_and,<-hq];rw [show (bytes [96]).toList=[96] from by rw [ByteArray.toList_eq];rfl]),below_drewN (qb _ _) _⟩
  ·have d7:(v.kind==6)=false:=by simp [h7]
   rw [d7];go_enter Tryz.func240,Tryz.ntmps240
   go_wp2_with fail
   go_quiet (fail);go_wp2_with fail
   go_ret;exact ⟨rfl,below_drewN (qb _ _) _⟩
 ·have hp:tie s.ws n=false:=by unfold tie;rw [List.getElem?_eq_none (by omega)]
  rw [hp];clear hp;go_enter Tryz.func240,Tryz.ntmps240
  go_wp2_with fail
  go_quiet (fail);go_wp2_with fail
  go_ret;exact ⟨rfl,below_drewN (qb _ _) _⟩
def PN (ty:TypeId) (s:PS) (w:World) (o:Nat) (r:R Nat) (e:Ending) (w':World):Prop:=
 match r with
 |.ok m=>e=.returned (.tuple #[])/\PAt w' s m o/\Away s.pb w.heap.size w w'
 |.bad c p=>e=.panicked [faultEntry ty c p]/\Away s.pb w.heap.size w w'
theorem wrap_succ {n:Nat} (h:n<=1048576):wrap64 ((n:Int)+1)=((n+1:Nat):Int):=by
 unfold wrap64;omega
theorem takes_calls (s:PS) (n o:Nat) (l:List UInt8) (w:World) (h:PAt w s n o):Calls Tryz.prog 194 #[.pointer (some ⟨s.pb,0,none⟩),.string (bytes l)] w (PN 61 s w o (takes s.ws s.e n l)):=by
 unfold takes;have HP:=hid h;cases hs:sees s.ws n l with
 |true=>
  have HW:=hid (show wrap64 ((n:Int)+1)=((n+1:Nat):Int) from wrap_succ (by have:=sees_lt hs;have:=HP.ok.len;omega));have HS:=hid (fun W (hb:PAt W s n o)=>sees_calls s n o l W hb);rw [hs] at HS;clear hs h;go_enter Tryz.func194,Tryz.ntmps194
  go_wp2_with (go_at_call 122;refine (HS.out _ HP.out).mono ?_;rintro e w1 ⟨rfl,hb1⟩;have HP1:=hid (HP.later hb1);have HB1:=hid hb1;clear hb1;have h1:=HP1.c1;have hf:=HP1.fz)
  all_goals
   refine bodyPost_ret (v:=.tuple #[]) (by simp [results,Tryz.results194,go_sem]) rfl ?_;have hx:=HP1.next (n+1) (v:=.int .i64 (wrap64 ((n:Int)+1))) (by rw [HW.out]);exact ⟨rfl,hx,(Away.of_below HB1.out).setCell (q:=⟨s.pb,1,none⟩) (.inl rfl) _⟩
 |false=>
  have HS:=hid (fun W (hb:PAt W s n o)=>sees_calls s n o l W hb);rw [hs] at HS;clear hs h;go_enter Tryz.func194,Tryz.ntmps194
  go_wp2_with (first
   |(go_at_call 122;refine (HS.out _ HP.out).mono ?_;rintro e w1 ⟨rfl,hb1⟩;have HP1:=hid (HP.later hb1);have HB1:=hid hb1;clear hb1)
   |(go_at_call 29;refine (place_calls s n o _ HP1.out).mono ?_;rintro e w2 ⟨rfl,hb2⟩;have HB2:=hid hb2;clear hb2)
   |(go_at_call 27;refine (wrong_calls _ _).mono ?_;rintro e w3 ⟨rfl,rfl⟩))
  all_goals exact ⟨rfl,rfl,Away.of_below (HB1.trans (HB2.mono HB1.size))⟩
def PO (ty:TypeId) (s:PS) (w:World) (r:R (Nat × Nat)) (e:Ending) (w':World):Prop:=
 match r with
 |.ok (m,o)=>e=.returned (.tuple #[])/\PAt w' s m o/\Away s.pb w.heap.size w w'
 |.bad c p=>e=.panicked [faultEntry ty c p]/\Away s.pb w.heap.size w w'
theorem opens_calls (s:PS) (n o:Nat) (w:World) (h:PAt w s n o) (hn:n<s.ws.length) (ho:o<=1048576):Calls Tryz.prog 155 #[.pointer (some ⟨s.pb,0,none⟩)] w (PO 61 s w (opens s.ws s.e n o)):=by
 have HP:=hid (h.opened (o+1) (v:=.int .i64 (wrap64 ((o:Int)+1))) (by rw [wrap_succ ho]));have HW:=hid (show wrap64 ((n:Int)+1)=((n+1:Nat):Int) from wrap_succ (by have:=h.ok.len;omega));have hw:=wrap_succ ho;have h1:=h.c1;have h3:=h.c3;have hf:=h.fz;have HA:=hid ((Away.refl s.pb w.heap.size w).setCell (q:=⟨s.pb,3,none⟩) (.inl rfl) (.int .i64 (wrap64 ((o:Int)+1))));unfold opens;by_cases hlt:512<o+1
 ·rw [if_pos hlt]
  have hd:decide (512<wrap64 ((o:Int)+1))=true:=by rw [hw];simp;omega
  clear h hw hlt ho hn;go_enter Tryz.func155,Tryz.ntmps155
  go_wp2_with (first
   |(go_at_call 29;refine (place_calls s n (o+1) _ HP.out).mono ?_;rintro e w2 ⟨rfl,hb2⟩;have HB2:=hid hb2;clear hb2))
  all_goals exact ⟨rfl,rfl,HA.trans (Away.of_below (HB2.mono HA.size))⟩
 ·rw [if_neg hlt]
  have hd:decide (512<wrap64 ((o:Int)+1))=false:=by rw [hw];simp;omega
  clear h hw hlt ho hn;go_enter Tryz.func155,Tryz.ntmps155
  go_wp2_with fail
  all_goals
   refine bodyPost_ret (v:=.tuple #[]) (by simp [results,Tryz.results155,go_sem]) rfl ?_;have hx:=HP.next (n+1) (v:=.int .i64 (wrap64 ((n:Int)+1))) (by rw [HW.out]);exact ⟨rfl,hx,HA.setCell (q:=⟨s.pb,1,none⟩) (.inl rfl) _⟩
end Pz
open Go.RowKit
namespace Pz
theorem text_beq (a b:List UInt8):((bytes a).toList==b)=(a==b):=by
 rw [ByteArray.toList_eq];simp [bytes]
theorem begins_calls (s:PS) (n o:Nat) (w:World) (h:PAt w s n o):Calls Tryz.prog 88 #[.pointer (some ⟨s.pb,0,none⟩)] w fun e w'=>e=.returned (.bool (begins s.ws n))/\Below w.heap.size w w':=by
 have h0:=h.c0;have h1:=h.c1;by_cases hn:n<s.ws.length
 ·obtain ⟨v,hv⟩:∃ v,s.ws[n]? =some v:=⟨_,List.getElem?_eq_getElem hn⟩
  obtain ⟨e,k0,k1,k2⟩:=h.word hv;rw [e] at h0;have hpb:=h.lt;have hwb:s.wb<w.heap.size:=qc _ _ k0;by_cases h7:v.kind=7
  ·have hp:begins s.ws n=((v.text==[40])||((v.text==[123,123,41,109])||((v.text==[123,123,41,100])||((v.text==[112,105,99,107,46])||(v.text==[91,58]))))):=by
    unfold begins;rw [hv,Bool.eq_iff_iff];simp [h7]
   have q1:=text_beq v.text [40];have q2:=text_beq v.text [123,123,41,109];have q3:=text_beq v.text [123,123,41,100];have q4:=text_beq v.text [112,105,99,107,46];have q5:=text_beq v.text [91,58];have d7:(v.kind !=7)=false:=by simp [h7]
   rw [hp];have HP:=hid h;have HV:=hid hv;clear hp hv e h7 h;generalize (v.text==[40])=b1 at q1 ⊢;generalize (v.text==[123,123,41,109])=b2 at q2 ⊢;generalize (v.text==[123,123,41,100])=b3 at q3 ⊢;generalize (v.text==[112,105,99,107,46])=b4 at q4 ⊢;generalize (v.text==[91,58])=b5 at q5 ⊢;go_enter Tryz.func88,Tryz.ntmps88
   go_wp2_with fail
   go_quiet (fail);have hx:=HP.drewN nq;have hb:=below_drewN (qb w.heap.size w) nq;generalize w.drewN nq=w1 at hx hb ⊢;clear h0 h1 k0 k1 k2 hpb hwb;obtain ⟨e,k0,k1,k2⟩:=hx.word HV.out;have h0:=hx.c0;have h1:=hx.c1;rw [e] at h0;have hpb:=hx.lt;have hwb:s.wb<w1.heap.size:=qc _ _ k0;have HB:=hid hb;clear hx hb e;go_wp2_with fail
   go_region
   all_goals
    have HB2:=hid (HB.trans ((((qb _ _).alloc (qa _) (.cells #[.int .i64 v.kind,.string (bytes v.text),.int .i64 (v.at_:Int)] 67)).drew).mono HB.size));rcases b1 with _|_
   all_goals (try rcases b2 with _|_)
   all_goals (try rcases b3 with _|_)
   all_goals (try rcases b4 with _|_)
   all_goals (try rcases b5 with _|_)
   all_goals go_wp2_with fail
   all_goals go_ret
   all_goals exact ⟨rfl,HB2.out⟩
  ·have hp:begins s.ws n=decide (v.kind<=4):=by unfold begins;rw [hv];simp [h7]
   have d7:(v.kind !=7)=true:=by simp [h7]
   rw [hp];have HP:=hid h;have HV:=hid hv;clear hp hv e h7 h;go_enter Tryz.func88,Tryz.ntmps88
   go_wp2_with fail
   go_quiet (fail);have hx:=HP.drewN nq;have hb:=below_drewN (qb w.heap.size w) nq;generalize w.drewN nq=w1 at hx hb ⊢;clear h0 h1 k0 k1 k2 hpb hwb;obtain ⟨e,k0,k1,k2⟩:=hx.word HV.out;have h0:=hx.c0;have h1:=hx.c1;rw [e] at h0;have hpb:=hx.lt;have hwb:s.wb<w1.heap.size:=qc _ _ k0;have HB:=hid hb;clear hx hb e;go_wp2_with fail
   go_region
   all_goals go_wp2_with fail
   all_goals go_ret
   all_goals exact ⟨rfl,HB.trans ((((qb _ _).alloc (qa _) _).drew).mono HB.size)⟩
 ·have hp:begins s.ws n=false:=by unfold begins;rw [List.getElem?_eq_none (by omega)]
  have hd:decide ((n:Int)>=(s.ws.length:Int))=true:=by simp;omega
  have hd2:decide ((s.ws.length:Int)<=(n:Int))=true:=by simp;omega
  rw [hp];clear hp;go_enter Tryz.func88,Tryz.ntmps88
  go_wp2_with fail
  go_quiet (fail);go_wp2_with fail
  go_ret;exact ⟨rfl,below_drewN (qb _ _) _⟩
end Pz
open Go.RowKit
namespace Pz
theorem own_kind {w:World} {t:T} {x:TV} {F:List Nat} (h:Own w t x F):x.kind=t.kind:=by
 cases t with
 |mk k s n sh a l=>
  simp only [Own] at h;exact h.2.1
theorem OwnI_lt {w:World} {ty:TypeId} {A:Option Addr} {len cap:Nat} {xs:List Int} {F:List Nat} (h:OwnI w ty A len cap xs F):∀ b∈F,b<w.heap.size:=by
 intro b hb;rcases h.2.1 with ⟨_,_,rfl⟩|⟨g,cur,_,rfl,hg,_⟩
 ·simp at hb
 ·simp at hb;subst hb;exact (Array.getElem?_eq_some_iff.1 hg).1
theorem OwnB_lt {w:World} {ty:TypeId} {size:Nat} {A:Option Addr} {len cap:Nat} {F:List Nat} (h:OwnB w ty size A len cap F):∀ b∈F,b<w.heap.size:=by
 intro b hb;rcases h with ⟨_,_,rfl⟩|⟨g,cur,_,rfl,hg,_⟩
 ·simp at hb
 ·simp at hb;subst hb;exact (Array.getElem?_eq_some_iff.1 hg).1
theorem OwnL_lt {w:World} (l:List T) (ih:∀ t∈l,∀ x F,Own w t x F->∀ b∈F,b<w.heap.size):∀ (A:Option Addr) (i:Nat) (F:List Nat),OwnL w l A i F->∀ b∈F,b<w.heap.size:=by
 induction l with
 |nil=>
  intro A i F h b hb;have h:F=[]:=h;subst h;simp at hb
 |cons t l ihl=>
  intro A i F h b hb;obtain ⟨F1,F2,rfl,⟨_,x,_,_,ho⟩,hr⟩:=h;rcases List.mem_append.1 hb with hb|hb
  ·exact ih t (by simp) x F1 ho b hb
  ·exact ihl (fun u hu=>ih u (by simp [hu])) A (i+1) F2 hr b hb
theorem own_lt {w:World} (t:T):∀ (x:TV) (F:List Nat),Own w t x F->∀ b∈F,b<w.heap.size:=by
 refine T.ind (P:=fun t=>∀ (x:TV) (F:List Nat),Own w t x F->∀ b∈F,b<w.heap.size) ?_ t;intro k s n sh a l ih x F h b hb;simp only [Own] at h;obtain ⟨h1,h2,h3,h4,h5,F1,F2,F3,F4,rfl,h6,h7,h8,h9⟩:=h;rcases List.mem_append.1 hb with hb|hb
 ·rcases List.mem_append.1 hb with hb|hb
  ·rcases List.mem_append.1 hb with hb|hb
   ·exact OwnI_lt h6 b hb
   ·exact OwnI_lt h7 b hb
  ·exact OwnB_lt h8 b hb
 ·exact OwnL_lt l ih _ _ _ h9 b hb
theorem OwnU.lt {w:World} {u:U} {x:UV} {F:List Nat} (h:OwnU w u x F):∀ b∈F,b<w.heap.size:=by
 obtain ⟨⟨F1,F2,rfl,h1,h2⟩,h3,h4⟩:=h;intro b hb;rcases List.mem_append.1 hb with hb|hb
 ·exact own_lt _ _ _ h1 b hb
 ·unfold OwnG at h2
  split at h2
  ·obtain ⟨_,_,_,rfl⟩:=h2;simp at hb
  ·obtain ⟨_,_,h2⟩:=h2
   obtain ⟨F3,F4,rfl,h3,h4⟩:=h2.split;rcases List.mem_append.1 hb with hb|hb
   ·exact OwnB_lt h3 b hb
   ·exact OwnL_lt _ (fun t _=>own_lt t) _ _ _ h4 b hb
theorem OwnU.flags {w:World} {u:U} {x:UV} {F:List Nat} (h:OwnU w u x F):x.cap=u.cap/\(x.ga=none ↔ u.gerund=none)/\(x.ga=none->x.gl=0/\x.gc=0)/\x.t.kind=u.t.kind/\x.at_=u.at_:=by
 obtain ⟨⟨F1,F2,rfl,h1,h2⟩,h3,h4⟩:=h;refine ⟨h3,?_,?_,?_,h4⟩
 ·unfold OwnG at h2
  split at h2
  ·rename_i e;simp [h2.1,e]
  ·rename_i e;simp [h2.1,e]
 ·unfold OwnG at h2
  split at h2
  ·exact fun _=>⟨h2.2.1,h2.2.2.1⟩
  ·exact fun e=>absurd e h2.1
 ·exact own_kind h1
theorem eqS_nil (w:World):(binOp .eql 26 (.slice none 0 0) (.slice none 0 0)).run Tryz.prog w=.ok (.bool true) w:=by kernel_rfl
theorem eqS_some (a:Addr) (l c:Nat) (w:World):(binOp .eql 26 (.slice (some a) l c) (.slice none 0 0)).run Tryz.prog w=.ok (.bool false) w:=by kernel_rfl
theorem noun_calls (u:U) (x:UV) (F:List Nat) (w:World) (h:OwnU w u x F):Calls Tryz.prog 104 #[x.val] w fun e w'=>e=.returned (.bool u.noun)/\Below w.heap.size w w':=by
 obtain ⟨h1,h2,h3,h4,-⟩:=h.flags;have hcl:=fun W=>class_calls x.t W;simp only [TV.val,TV.cells] at hcl;have HC:=hid hcl;have hn:u.noun=(!x.cap&&(x.ga==none)&&(T.cls x.t.kind==1)):=by
  unfold U.noun;rw [<-h1,<-h4]
  congr 2
  rw [Bool.eq_iff_iff];simp [h2]
 rw [hn];clear hn h1 h2 h4 h hcl;obtain ⟨y,ga,gl,gc,cap,at_⟩:=x;obtain ⟨kind,text,n,sa,sl,sc,aa,al,ac,ka,kl,kc⟩:=y;simp only [UV.val,UV.cells] at*;generalize T.cls kind=c at HC ⊢;have e1:=eqS_nil;have e2:=eqS_some;cases cap<;>cases ga
 ·obtain ⟨rfl,rfl⟩:=h3 rfl
  clear h3;go_enter Tryz.func104,Tryz.ntmps104
  go_wp2_with (go_at_call 17;refine (HC.out _).mono ?_;rintro e w1 ⟨rfl,hb⟩)
  all_goals go_ret
  all_goals exact ⟨rfl,Below.trans (by go_grown) (hb.mono (by simp))⟩
 all_goals
  clear h3;go_enter Tryz.func104,Tryz.ntmps104
  go_wp2_with fail
  all_goals go_ret
  all_goals exact ⟨rfl,by go_grown⟩
theorem verb_calls (u:U) (x:UV) (F:List Nat) (w:World) (h:OwnU w u x F):Calls Tryz.prog 126 #[x.val] w fun e w'=>e=.returned (.bool u.verb)/\Below w.heap.size w w':=by
 obtain ⟨h1,h2,h3,h4,-⟩:=h.flags;have hcl:=fun W=>class_calls x.t W;simp only [TV.val,TV.cells] at hcl;have HC:=hid hcl;have hn:u.verb=(!x.cap&&(x.ga==none)&&(T.cls x.t.kind==3)):=by
  unfold U.verb;rw [<-h1,<-h4]
  congr 2
  rw [Bool.eq_iff_iff];simp [h2]
 rw [hn];clear hn h1 h2 h4 h hcl;obtain ⟨y,ga,gl,gc,cap,at_⟩:=x;obtain ⟨kind,text,n,sa,sl,sc,aa,al,ac,ka,kl,kc⟩:=y;simp only [UV.val,UV.cells] at*;generalize T.cls kind=c at HC ⊢;have e1:=eqS_nil;have e2:=eqS_some;cases cap<;>cases ga
 ·obtain ⟨rfl,rfl⟩:=h3 rfl
  clear h3;go_enter Tryz.func126,Tryz.ntmps126
  go_wp2_with (go_at_call 17;refine (HC.out _).mono ?_;rintro e w1 ⟨rfl,hb⟩)
  all_goals go_ret
  all_goals exact ⟨rfl,Below.trans (by go_grown) (hb.mono (by simp))⟩
 all_goals
  clear h3;go_enter Tryz.func126,Tryz.ntmps126
  go_wp2_with fail
  all_goals go_ret
  all_goals exact ⟨rfl,by go_grown⟩
theorem operand_calls (u:U) (x:UV) (F:List Nat) (w:World) (h:OwnU w u x F):Calls Tryz.prog 243 #[x.val] w fun e w'=>e=.returned (.bool u.operand)/\Below w.heap.size w w':=by
 have hk:=h.flags.2.2.2.1;have HN:=hid (noun_calls u x F (w.alloc (.cells x.cells 145)) (h.kept (fun b hb=>by
  have:=OwnU.lt h b hb;exact Below.heap_alloc _ _ _ this)))
 have hn:u.operand=(u.noun&&(x.t.kind==1||x.t.kind==2)):=by unfold U.operand;rw [hk]
 rw [hn];clear hn hk h;obtain ⟨y,ga,gl,gc,cap,at_⟩:=x;obtain ⟨kind,text,n,sa,sl,sc,aa,al,ac,ka,kl,kc⟩:=y;simp only [UV.val,UV.cells] at*;generalize u.noun=b at HN ⊢;cases b
 ·go_enter Tryz.func243,Tryz.ntmps243
  go_wp2_with (go_at_call 104;refine HN.mono ?_;rintro e w1 ⟨rfl,hb⟩)
  all_goals go_ret
  all_goals exact ⟨rfl,Below.trans (by go_grown) (hb.mono (by simp))⟩
 ·cases h1:(kind==1)
  all_goals
   go_enter Tryz.func243,Tryz.ntmps243
   go_wp2_with (go_at_call 104;refine HN.mono ?_;rintro e w1 ⟨rfl,hb⟩;obtain ⟨hc,hf⟩:=bcell' hb;have hz:w.heap.size<w1.heap.size:=by have:=hb.size;simp at this;omega)
   all_goals go_ret
   all_goals exact ⟨rfl,Below.trans (by go_grown) (hb.mono (by simp))⟩
theorem made_calls' (k:Int) (A:Option Addr) (len cap:Nat) (w:World):Calls Tryz.prog 127 #[.int .i64 k,.slice A len cap] w fun e w'=>e=.returned (nodeV k 0 ⟨#[]⟩ A len cap).val/\Below w.heap.size w w':=by
 go_enter Tryz.func127,Tryz.ntmps127
 go_wp2_with fail
 refine bodyPost_ret (v:=(nodeV k 0 ⟨#[]⟩ A len cap).val) (by simp [results,Tryz.results127,nodeV,TV.val,TV.cells,go_sem]) rfl ?_;exact ⟨rfl,by go_grown⟩
end Pz
end Go.Proofs.YtimcmghhbdfjfaaGreatDoor
