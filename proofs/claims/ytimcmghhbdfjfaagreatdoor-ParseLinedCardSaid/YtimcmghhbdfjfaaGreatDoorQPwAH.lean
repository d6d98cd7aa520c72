/- Package parse. -/
import Derived.Test.YtimcmghhbdfjfaaGreatDoorQPwAF
import Derived.Deep.RegionHeld2
set_option linter.unusedVariables false
set_option linter.unusedSimpArgs false
set_option maxRecDepth 100000
set_option maxHeartbeats 4000000
namespace Go.Proofs.YtimcmghhbdfjfaaGreatDoor
open Go.RowKit
namespace Pz
theorem frame_below {w:World} {v:W} {x:UV} {W:World} (hW:W=((w.alloc (.cells (wcells v) 67)).alloc (.cells x.cells 145)).alloc (.cells zeroT 28)):Below w.heap.size w W:=by
 subst hW
 go_grown
theorem both_calls {s:PS} {f g:Nat} (hf:CBehind s f) (hg:g<=f) (k:Int) (hk:0<=k/\k<=100) (v:W) (n o:Nat) (hD:Deep o) (hn:need s.ws n 3<=g) (u:U) (x:UV) (F:List Nat) (w:World) (hP:PAt w s n o) (hu:UArg w s u x F) (kb:Nat) (hkb:Bx s w kb #[.int .i64 k]):
 Calls Tryz.prog 197 #[ptr s,wordV v,x.val,.pointer (some ⟨kb,0,none⟩)] w (PT 61 s F w o (if u.verb=false then .bad 32 v.at_ else (behind s.ws s.e g n o).andThen fun x=>.ok (made k [u.t,x.1],x.2))):=by
 have HP:=hid hP;have HU:=hid hu;have HL:=hid hu.lt;have HK:=hid hk;have HKB:=hid hkb;have HB:=hid (fun W (h:PAt W s n o)=>hf g hg n o W h hD hn);unfold ptr at HB;unfold ptr wordV;simp only [UV.val,UV.cells];clear hP hD hn hg hf hu hk hkb;cases hv:u.verb with
 |false=>
  rw [if_pos rfl];go_enter Tryz.func197,Tryz.ntmps197
  go_upto_region 1 with fail
  generalize hW:World.alloc _ _=w0;obtain ⟨hS,hXW,hXU,hU⟩:=frame HP.out v HU.out w0 hW.symm;have S0:=hid hS;have XW0:=hid hXW;have XU0:=hid hXU;have U0:=hid hU;clear hW hS hXW hXU hU;obtain ⟨xu0c0,xu0c1,xu0c2,xu0c3,xu0c4,xu0c5,xu0c6,xu0c7,xu0c8⟩:=XU0.box.ru x rfl;have xu0cf:=XU0.box.fz;have xu0cl:=XU0.box.lt;obtain ⟨xw0c0,xw0c1,xw0c2⟩:=XW0.box.rv v rfl;have xw0cf:=XW0.box.fz;have xw0cl:=XW0.box.lt;go_wp2_with (first
   |(go_at_call 27;refine (wrong_calls _ _).mono ?_;rintro e w9 ⟨rfl,rfl⟩)
   |(go_at_call 126;refine (verb_is hv x _ _ (U0.later (by go_grown)).own).mono ?_;rintro e w1 ⟨rfl,hb⟩;have hb0:=hb;have hb:=Start.then S0.out hb (by go_grown);have S1:=hid (S0.later hb);have U1:=hid (U0.later hb);have XW1:=hid (XW0.later hb);obtain ⟨xw1c0,xw1c1,xw1c2⟩:=XW1.box.rv v rfl;have xw1cf:=XW1.box.fz;have xw1cl:=XW1.box.lt;clear hb hb0))
  all_goals exact ⟨rfl,rfl,S1.away⟩
 |true=>
  rw [if_neg (by simp)];cases hr:behind s.ws s.e g n o with
  |bad c p=>
   rw [hr] at HB;clear hr;go_enter Tryz.func197,Tryz.ntmps197
   go_upto_region 1 with fail
   generalize hW:World.alloc _ _=w0;obtain ⟨hS,hXW,hXU,hU⟩:=frame HP.out v HU.out w0 hW.symm;have S0:=hid hS;have XW0:=hid hXW;have XU0:=hid hXU;have U0:=hid hU;have HB0:=hid (frame_below hW.symm);clear hW hS hXW hXU hU;obtain ⟨xu0c0,xu0c1,xu0c2,xu0c3,xu0c4,xu0c5,xu0c6,xu0c7,xu0c8⟩:=XU0.box.ru x rfl;have xu0cf:=XU0.box.fz;have xu0cl:=XU0.box.lt;have XK0:=hid (HKB.later HB0.out);go_wp2_with (first
    |(go_at_call 126;refine (verb_is hv x _ _ (U0.later (by go_grown)).own).mono ?_;rintro e w1 ⟨rfl,hb⟩;have hb0:=hb;have hb:=Start.then S0.out hb (by go_grown);have S1:=hid (S0.later hb);have U1:=hid (U0.later hb);have XU1:=hid (XU0.later hb);have XK1:=hid (XK0.later hb);obtain ⟨xu1c0,xu1c1,xu1c2,xu1c3,xu1c4,xu1c5,xu1c6,xu1c7,xu1c8⟩:=XU1.box.ru x rfl;have xu1cf:=XU1.box.fz;have xu1cl:=XU1.box.lt;have xk1c0:=XK1.box.cell 0 (.int .i64 k) rfl;have xk1cf:=XK1.box.fz;have xk1cl:=XK1.box.lt;clear hb hb0))
   all_goals go_region_dies
   all_goals
    go_wp2_with (first
     |(go_at_call 198;refine (HB.out _ (S1.at_.later (by go_grown))).mono ?_;intro e w9 hp;replace hp:=PT.from S1.out (by go_grown) hp;obtain ⟨rfl,hA⟩:=hp))
   all_goals exact ⟨rfl,rfl,S1.away.next hA⟩
  |ok r=>
   obtain ⟨t,m⟩:=r;rw [hr] at HB;clear hr;go_enter Tryz.func197,Tryz.ntmps197
   go_upto_region 1 with fail
   generalize hW:World.alloc _ _=w0;obtain ⟨hS,hXW,hXU,hU⟩:=frame HP.out v HU.out w0 hW.symm;have S0:=hid hS;have XW0:=hid hXW;have XU0:=hid hXU;have U0:=hid hU;have HB0:=hid (frame_below hW.symm);clear hW hS hXW hXU hU;obtain ⟨xu0c0,xu0c1,xu0c2,xu0c3,xu0c4,xu0c5,xu0c6,xu0c7,xu0c8⟩:=XU0.box.ru x rfl;have xu0cf:=XU0.box.fz;have xu0cl:=XU0.box.lt;have XK0:=hid (HKB.later HB0.out);go_wp2_with (first
    |(go_at_call 126;refine (verb_is hv x _ _ (U0.later (by go_grown)).own).mono ?_;rintro e w1 ⟨rfl,hb⟩;have hb0:=hb;have hb:=Start.then S0.out hb (by go_grown);have S1:=hid (S0.later hb);have U1:=hid (U0.later hb);have XU1:=hid (XU0.later hb);have XK1:=hid (XK0.later hb);obtain ⟨xu1c0,xu1c1,xu1c2,xu1c3,xu1c4,xu1c5,xu1c6,xu1c7,xu1c8⟩:=XU1.box.ru x rfl;have xu1cf:=XU1.box.fz;have xu1cl:=XU1.box.lt;have xk1c0:=XK1.box.cell 0 (.int .i64 k) rfl;have xk1cf:=XK1.box.fz;have xk1cl:=XK1.box.lt;clear hb hb0))
   all_goals
    go_region_with (first
     |(go_at_call 127;obtain ⟨_,TT0,-⟩:=U2.term;refine (made_calls' _ _ _ _ _).mono ?_;rintro e w3 ⟨rfl,hb⟩;have hb0:=hb;have hb:=Start.then S2.out hb (by go_grown);have S3:=hid (S2.later hb);have N3:=hid ((Tm.node2 (k:=k) TT0 T2.out HK.out S2.at_.lt U1.hi_).later hb0);obtain ⟨c0,c1,c2,c3,c4,c5⟩:=S3.box.rz rfl;have cf:=S3.box.fz;have cl:=S3.box.lt;clear hb hb0;simp only [nodeV,TV.val,TV.cells])
     |(go_at_call 198;refine (HB.out _ (S1.at_.later (by go_grown))).mono ?_;intro e w2 hp;replace hp:=PT.from S1.out (by go_grown) hp;obtain ⟨y2,G2,rfl,hO,hG,hP,hA⟩:=hp;have S2:=hid (S1.moved hA hP);have T2:=hid (Tm.new S1.out hO hG (by simp) hA.size (by simp));have U2:=hid (U1.moved hA);have XU2:=hid (XU1.moved hA);have XK2:=hid (XK1.moved hA);obtain ⟨xu2c0,xu2c1,xu2c2,xu2c3,xu2c4,xu2c5,xu2c6,xu2c7,xu2c8⟩:=XU2.box.ru x rfl;have xu2cf:=XU2.box.fz;have xu2cl:=XU2.box.lt;have xk2c0:=XK2.box.cell 0 (.int .i64 k) rfl;have xk2cf:=XK2.box.fz;have xk2cl:=XK2.box.lt;clear hO hG hP hA;simp only [TV.val,TV.cells]))
   all_goals go_wp2_with fail
   all_goals
    refine bodyPost_ret (v:=(nodeV k 0 ⟨#[]⟩ (some ⟨w2.heap.size,0,none⟩) 2 2).val) (by simp [results,Tryz.results197,nodeV,TV.val,TV.cells,c0,c1,c2,c3,c4,c5,cf,go_sem]) rfl ?_;exact N3.ends S3.out S0.box.lt HL.out _ _ _ _ _ _
end Pz
open Go.RowKit Go.WideMaps Go.Maps
namespace Pz
theorem Below_grown {w w':World} (h:Below w.heap.size w w') (row:Option Nat):w.grownBy w' row:=⟨h.os,h.tape,h.output,h.size,fun k hk _=>h.block k hk⟩
def jointV (b:Nat):Value:=.func (.func 197) #[] #[.pointer (some ⟨b,0,none⟩)]
theorem joint_calls (k:Int) (w:World):Calls Tryz.prog 196 #[.int .i64 k] w fun e w'=>∃ b,e=.returned (jointV b)/\Boxd w' b #[.int .i64 k]/\w.heap.size<=b/\Below w.heap.size w w':=by
 go_enter Tryz.func196,Tryz.ntmps196
 go_wp2_with fail
 go_ret;exact ⟨w.heap.size,rfl,Boxd.new w #[.int .i64 k] 3,qa _,(qb _ _).alloc (qa _) _⟩
structure JAt (w:World) (mb:Nat) (ks:List (Nat × Int)) (wr:World):Prop where
 below:Below w.heap.size w wr
 mb0:w.heap.size<=mb
 mb1:mb<wr.heap.size
 box:∀ p∈ks,Boxd wr p.1 #[.int .i64 p.2]/\p.1≠mb/\w.heap.size<=p.1
theorem JAt.call {w wr w':World} {mb:Nat} {ks:List (Nat × Int)} (h:JAt w mb ks wr) {b:Nat} {k:Int} (hb:Below wr.heap.size wr w') (hB:Boxd w' b #[.int .i64 k]) (h0:wr.heap.size<=b):JAt w mb ((b,k)::ks) w':=by
 have h1:=h.mb1;have h2:=h.mb0;refine ⟨Below_next h.below hb,h.mb0,Nat.lt_of_lt_of_le h.mb1 hb.size,fun p hp=>?_⟩;rcases List.mem_cons.1 hp with rfl|hp
 ·exact ⟨hB,by show b≠mb;omega,by show w.heap.size<=b;omega⟩
 ·obtain ⟨a,c,d⟩:=h.box p hp
  exact ⟨a.later hb,c,d⟩
theorem JAt.insert {w wr w':World} {mb:Nat} {ks:List (Nat × Int)} (h:JAt w mb ks wr) (hg:wr.grownBy w' (some mb)):JAt w mb ks w':=by
 refine ⟨h.below.grown hg h.below.size (fun j hj=>by cases hj;exact h.mb0),h.mb0,Nat.lt_of_lt_of_le h.mb1 hg.size,fun p hp=>?_⟩;obtain ⟨a,c,d⟩:=h.box p hp;exact ⟨a.kept (hg.block _ a.lt (fun e=>c (Option.some.inj e))) hg.size,c,d⟩
def jointM (b1 b2 b3 b4 b5 b6 b7 b8 b9:Nat):List (List UInt8 × Value):=
 [([64],jointV b1),([64,58],jointV b2),([38,58],jointV b3),([38,46],jointV b4),([38,46,58],jointV b5),([46,46],jointV b6),([58,58],jointV b7),([58,46],jointV b8),([58],jointV b9),
  ([38],.func (.func 199) #[] #[]),([94,58],.func (.func 200) #[] #[]),([34],.func (.func 201) #[] #[]),([64,46],.func (.func 202) #[] #[])]
def JointsPost (w:World) (e:Ending) (w':World):Prop:=
 ∃ mb b1 b2 b3 b4 b5 b6 b7 b8 b9,e=.returned (.map (some mb))/\w'.ownsMap Tryz.prog 9 Hv mb 13 (putS (.map []) (jointM b1 b2 b3 b4 b5 b6 b7 b8 b9))/\
  JAt w mb [(b9,37),(b8,36),(b7,35),(b6,34),(b5,33),(b4,32),(b3,31),(b2,29),(b1,28)] w'
theorem joints_calls (w:World):Calls Tryz.prog 157 #[] w (JointsPost w):=by
 have hmm:=@run_makeMap Tryz.prog;have HM:=hid (World.ownsMap_made w Tryz.prog 9 Hv);have HJ:=hid (show JAt w w.heap.size [] (w.alloc (.map #[] 0)) from ⟨(qb _ _).alloc (qa _) _,qa _,by simp,fun p hp=>by cases hp⟩);go_enter Tryz.func157,Tryz.ntmps157
 go_wp2_with (first
  |(go_at_call 196;refine (joint_calls _ _).mono ?_;rintro e wj ⟨b,rfl,hB,h0,hb⟩;have HM2:=hid (World.ownsMap.kept HM.out (Below_grown hb none) (by simp));have HJ2:=hid (HJ.call hb hB h0);clear HM HJ hB h0 hb;have HM:=HM2;have HJ:=HJ2;clear HM2 HJ2;unfold jointV)
  |(refine wpList_insert_str _ rfl _ _ _ 182 rfl 9 181 law_str Tryz.underlying182 Hv w.heap.size _ _ rfl HM.out (by unfold maxLen;decide) _ _ _ rfl rfl (keyOf_string_mk Tryz.underlying9 (by unfold maxLen;decide)) (.held _) [] rfl ?_;intro wi hown hgrow;have HJ2:=hid (HJ.insert hgrow);clear HJ HM;have HJ:=HJ2;have HM:=hid hown;clear hown hgrow HJ2))
 go_ret;exact ⟨_,_,_,_,_,_,_,_,_,_,rfl,HM.out,HJ.out⟩
end Pz
open Go.RowKit Go.WideMaps Go.Maps
namespace Pz
theorem cf_both (a:Array Value) (W:World):(callFunc 197 a).run Tryz.prog W=.ok (.enter 197 a) W:=by kernel_rfl
theorem cf_bond (a:Array Value) (W:World):(callFunc 199 a).run Tryz.prog W=.ok (.enter 199 a) W:=by kernel_rfl
theorem cf_power (a:Array Value) (W:World):(callFunc 200 a).run Tryz.prog W=.ok (.enter 200 a) W:=by kernel_rfl
theorem cf_ranked (a:Array Value) (W:World):(callFunc 201 a).run Tryz.prog W=.ok (.enter 201 a) W:=by kernel_rfl
theorem cf_agenda (a:Array Value) (W:World):(callFunc 202 a).run Tryz.prog W=.ok (.enter 202 a) W:=by kernel_rfl
def JV (s:PS) (v:W) (n o:Nat) (u:U) (x:UV) (F:List Nat) (r:R (T × Nat)) (W0:World) (V:Value):Prop:=
 ∃ j caps,V=.func (.func j) #[] caps/\(∀ (a:Array Value) (W:World),(callFunc j a).run Tryz.prog W=.ok (.enter j a) W)/\
  ∀ W,Below W0.heap.size W0 W->PAt W s n o->UArg W s u x F->Calls Tryz.prog j (#[ptr s,wordV v,x.val]++caps) W (PT 61 s F W o r)
theorem joint_value {s:PS} {f g:Nat} (hb:CBehind s f) (he:CEither s f) (hg:g<=f) (v:W) (n o:Nat) (u:U) (x:UV) (F:List Nat) (hD:Deep o) (ht:v.text∈conL/\v.text≠[96]) (hn:need s.ws n 3<=g)
 {w wj:World} (hP:PAt w s n o) {mb b1 b2 b3 b4 b5 b6 b7 b8 b9:Nat} (hJ:JAt w mb [(b9,37),(b8,36),(b7,35),(b6,34),(b5,33),(b4,32),(b3,31),(b2,29),(b1,28)] wj):
 JV s v n o u x F (conjunction s.ws s.e (g+1) v n o u) wj (findS (jointM b1 b2 b3 b4 b5 b6 b7 b8 b9) v.text .nilFunc):=by
 have hB:∀ (b:Nat) (k:Int),(b,k)∈[(b9,(37:Int)),(b8,36),(b7,35),(b6,34),(b5,33),(b4,32),(b3,31),(b2,29),(b1,28)]->∀ W,Below wj.heap.size wj W->Bx s W b #[.int .i64 k]:=fun b k hm W hW=>by
  obtain ⟨h1,_,h3⟩:=hJ.box (b,k) hm;exact ⟨h1.later hW,(rb_of hP h3).1,(rb_of hP h3).2⟩
 have both:∀ (b:Nat) (k:Int),(b,k)∈[(b9,(37:Int)),(b8,36),(b7,35),(b6,34),(b5,33),(b4,32),(b3,31),(b2,29),(b1,28)]->0<=k/\k<=100->bothOf v.text=some k->JV s v n o u x F (conjunction s.ws s.e (g+1) v n o u) wj (jointV b):=fun b k hm hk hbo=>by
  refine ⟨_,_,rfl,cf_both,fun W hW hPW hu=>?_⟩;have:=both_calls hb hg k hk v n o hD hn u x F W hPW hu b (hB b k hm W hW);simp only [conjunction,hbo];exact this
 obtain ⟨kind,text,at_⟩:=v;simp only [conL,List.mem_cons,List.not_mem_nil,or_false] at ht;obtain ⟨ht,h96⟩:=ht;rcases ht with rfl|rfl|rfl|rfl|rfl|rfl|rfl|rfl|rfl|rfl|rfl|rfl|rfl|rfl
 ·exact both b1 28 (by simp) (by omega) rfl
 ·exact both b2 29 (by simp) (by omega) rfl
 ·refine ⟨202,#[],rfl,cf_agenda,fun W hW hPW hu=>?_⟩
  have:=agenda_calls hb hg ⟨kind,[64,46],at_⟩ n o hD hn u x F W hPW hu;have e:conjunction s.ws s.e (g+1) ⟨kind,[64,46],at_⟩ n o u=agendaR s.ws s.e g ⟨kind,[64,46],at_⟩ n o u:=by simp [conjunction,bothOf,agendaR];rfl
  rw [e,Array.append_empty];exact this
 ·refine ⟨199,#[],rfl,cf_bond,fun W hW hPW hu=>?_⟩
  have e:conjunction s.ws s.e (g+1) ⟨kind,[38],at_⟩ n o u=if u.operand then (behind s.ws s.e g n o).andThen fun x=>.ok (made 39 [u.t,x.1],x.2) else either s.ws s.e g ⟨kind,[38],at_⟩ n o u 30 40:=by simp [conjunction,bothOf]
  rw [e,Array.append_empty];exact bond_calls he hb hg ⟨kind,[38],at_⟩ n o hD hn u x F W hPW hu
 ·exact both b3 31 (by simp) (by omega) rfl
 ·exact both b4 32 (by simp) (by omega) rfl
 ·exact both b5 33 (by simp) (by omega) rfl
 ·exact both b6 34 (by simp) (by omega) rfl
 ·exact both b7 35 (by simp) (by omega) rfl
 ·exact both b8 36 (by simp) (by omega) rfl
 ·exact both b9 37 (by simp) (by omega) rfl
 ·refine ⟨200,#[],rfl,cf_power,fun W hW hPW hu=>?_⟩
  have e:conjunction s.ws s.e (g+1) ⟨kind,[94,58],at_⟩ n o u=either s.ws s.e g ⟨kind,[94,58],at_⟩ n o u 38 41:=by simp [conjunction,bothOf]
  rw [e,Array.append_empty];exact power_calls he hg ⟨kind,[94,58],at_⟩ n o hD hn u x F W hPW hu
 ·refine ⟨201,#[],rfl,cf_ranked,fun W hW hPW hu=>?_⟩
  have e:conjunction s.ws s.e (g+1) ⟨kind,[34],at_⟩ n o u=rankedR s.ws s.e ⟨kind,[34],at_⟩ n u:=by simp [conjunction,bothOf,rankedR];rfl
  rw [e,Array.append_empty];exact ranked_calls ⟨kind,[34],at_⟩ n o u x F W hPW hu
 ·exact absurd rfl h96
end Pz
open Go.RowKit Go.WideMaps Go.Maps
namespace Pz
theorem zero_joint (w:World):(zeroValue 181).run Tryz.prog w=.ok .nilFunc w:=by kernel_rfl
def Reads (v:W) (x:UV) (a b:Nat) (w':World):Prop:=
 w'.cell? ⟨a,0,none⟩=some (.int .i64 v.kind)/\w'.cell? ⟨a,1,none⟩=some (.string (bytes v.text))/\w'.cell? ⟨a,2,none⟩=some (.int .i64 (v.at_:Int))/\
 w'.cell? ⟨b,0,none⟩=some (.int .i64 x.t.kind)/\w'.cell? ⟨b,1,none⟩=some (.string x.t.text)/\w'.cell? ⟨b,2,none⟩=some (.int .i64 x.t.n)/\w'.cell? ⟨b,3,none⟩=some (.slice x.t.sa x.t.sl x.t.sc)/\w'.cell? ⟨b,4,none⟩=some (.slice x.t.aa x.t.al x.t.ac)/\w'.cell? ⟨b,5,none⟩=some (.slice x.t.ka x.t.kl x.t.kc)/\w'.cell? ⟨b,6,none⟩=some (.slice x.ga x.gl x.gc)/\w'.cell? ⟨b,7,none⟩=some (.bool x.cap)/\w'.cell? ⟨b,8,none⟩=some (.int .i64 x.at_)
theorem Reads.of {s:PS} {v:W} {x:UV} {a b:Nat} {w:World} (h1:Bx s w a (wcells v)) (h2:Bx s w b x.cells):Reads v x a b w:=
 ⟨h1.box.cell 0 _ rfl,h1.box.cell 1 _ rfl,h1.box.cell 2 _ rfl,h2.box.cell 0 _ rfl,h2.box.cell 1 _ rfl,h2.box.cell 2 _ rfl,h2.box.cell 3 _ rfl,h2.box.cell 4 _ rfl,h2.box.cell 5 _ rfl,h2.box.cell 6 _ rfl,h2.box.cell 7 _ rfl,h2.box.cell 8 _ rfl⟩
theorem conj_step {s:PS} {f:Nat} (hb:CBehind s f) (he:CEither s f):CConj s (f+1):=by
 intro g hg v n o u x F w hP hD hu ht hn;cases g with
 |zero=>unfold need at hn;omega
 |succ g=>
  have HP:=hid hP;have HU:=hid hu;have HL:=hid hu.lt;have HT:=hid (show v.text.length<=maxLen from qi ht.2.2 (by unfold maxLen;decide));have HJV:=hid (fun (W wj:World) (hPW:PAt W s n o) (mb b1 b2 b3 b4 b5 b6 b7 b8 b9:Nat) hJ=>joint_value hb he (g:=g) (by omega) v n o u x F hD ⟨ht.1,ht.2.1⟩ (by unfold need at hn ⊢;omega) (w:=W) (wj:=wj) hPW (mb:=mb) (b1:=b1) (b2:=b2) (b3:=b3) (b4:=b4) (b5:=b5) (b6:=b6) (b7:=b7) (b8:=b8) (b9:=b9) hJ);clear hP hD hu ht hn hg hb he;cases hr:conjunction s.ws s.e (g+1) v n o u with
  |bad c p=>
   rw [hr] at HJV;clear hr;unfold ptr wordV;simp only [UV.val,UV.cells];go_enter Tryz.func125,Tryz.ntmps125
   go_upto_region 1 with fail
   generalize hW:World.alloc _ _=w0;obtain ⟨hS,hXW,hXU,hU⟩:=frame HP.out v HU.out w0 hW.symm;have S0:=hid hS;have XW0:=hid hXW;have XU0:=hid hXU;have U0:=hid hU;clear hW hS hXW hXU hU;obtain ⟨xu0c0,xu0c1,xu0c2,xu0c3,xu0c4,xu0c5,xu0c6,xu0c7,xu0c8⟩:=XU0.box.ru x rfl;have xu0cf:=XU0.box.fz;have xu0cl:=XU0.box.lt;obtain ⟨xw0c0,xw0c1,xw0c2⟩:=XW0.box.rv v rfl;have xw0cf:=XW0.box.fz;have xw0cl:=XW0.box.lt;have R0:=hid (Reads.of XW0.out XU0.out);unfold Reads at R0;go_wp2_with fail
   have n1:¬w.heap.size=w.heap.size+1+1:=by omega
   have n2:¬w.heap.size+1+1=w.heap.size:=by omega
   have n3:¬w.heap.size+1=w.heap.size+1+1:=by omega
   have n4:¬w.heap.size+1+1=w.heap.size+1:=by omega
   refine wp_region_held_drew (S:=(fun w'=>w'.cell? ⟨w.heap.size,0,none⟩=some (.int .i64 v.kind)/\w'.cell? ⟨w.heap.size,1,none⟩=some (.string (bytes v.text))/\w'.cell? ⟨w.heap.size,2,none⟩=some (.int .i64 (v.at_:Int))/\
    w'.cell? ⟨w.heap.size+1,0,none⟩=some (.int .i64 x.t.kind)/\w'.cell? ⟨w.heap.size+1,1,none⟩=some (.string x.t.text)/\w'.cell? ⟨w.heap.size+1,2,none⟩=some (.int .i64 x.t.n)/\w'.cell? ⟨w.heap.size+1,3,none⟩=some (.slice x.t.sa x.t.sl x.t.sc)/\w'.cell? ⟨w.heap.size+1,4,none⟩=some (.slice x.t.aa x.t.al x.t.ac)/\w'.cell? ⟨w.heap.size+1,5,none⟩=some (.slice x.t.ka x.t.kl x.t.kc)/\w'.cell? ⟨w.heap.size+1,6,none⟩=some (.slice x.ga x.gl x.gc)/\w'.cell? ⟨w.heap.size+1,7,none⟩=some (.bool x.cap)/\w'.cell? ⟨w.heap.size+1,8,none⟩=some (.int .i64 x.at_))) (by kernel_rfl) (by exact R0.out) (fun hHeld=>?_)
   refine wpAnyH_take (i:=1) (v:=?_) rfl (by kernel_rfl) (by kernel_rfl) (by kernel_rfl) (fun _ _ _ h=>h) (Or.inl ⟨by rfl,?_⟩) (by assumption) ?_;rotate_left
   ·intro w hSw
    (try dsimp only at hSw)
    go_simp;try with_reducible rfl
   try simp only [Act.put,qk,qll,qm]
   refine wpAnyH_take (i:=2) (v:=?_) rfl (by kernel_rfl) (by kernel_rfl) (by kernel_rfl) (fun _ _ _ h=>h) (Or.inl ⟨by rfl,?_⟩) (by assumption) ?_;rotate_left
   ·intro w hSw
    (try dsimp only at hSw)
    go_simp;try with_reducible rfl
   try simp only [Act.put,qk,qll,qm]
   refine wpAnyH_take (i:=4) (v:=?_) rfl (by kernel_rfl) (by kernel_rfl) (by kernel_rfl) (fun _ _ _ h=>h) (Or.inl ⟨by rfl,?_⟩) (by assumption) ?_;rotate_left
   ·intro w hSw
    (try dsimp only at hSw)
    go_simp;try with_reducible rfl
   try simp only [Act.put,qk,qll,qm]
   refine wpAnyH_take (i:=5) (v:=?_) rfl (by kernel_rfl) (by kernel_rfl) (by kernel_rfl) (fun _ _ _ h=>h) (Or.inl ⟨by rfl,?_⟩) (by assumption) ?_;rotate_left
   ·intro w hSw
    (try dsimp only at hSw)
    go_simp;try with_reducible rfl
   try simp only [Act.put,qk,qll,qm]
   refine wpAnyH_take (i:=6) (v:=?_) rfl (by kernel_rfl) (by kernel_rfl) (by kernel_rfl) (fun _ _ _ h=>h) (Or.inl ⟨by rfl,?_⟩) (by assumption) ?_;rotate_left
   ·intro w hSw
    (try dsimp only at hSw)
    go_simp;try with_reducible rfl
   try simp only [Act.put,qk,qll,qm]
   refine wpAnyH_ready (rs:=[0]) (by kernel_rfl) (by simp) ?_;refine AllReadyH.cons rfl (fun K hK=>?_) AllReadyH.nil;go_simp;go_wp2_with (go_at_call 157;(with_reducible refine (joints_calls _).mono ?_);rintro e w1 ⟨mb,b1,b2,b3,b4,b5,b6,b7,b8,b9,rfl,hM,hJ⟩;obtain ⟨j,caps,hV,hcf,hcall⟩:=HJV.out _ _ (S0.at_.later (by go_grown)) _ _ _ _ _ _ _ _ _ _ hJ;have hb:=Start.then S0.out hJ.below (by go_grown);have S1:=hid (S0.later hb);have U1:=hid (U0.later hb);have XU1:=hid (XU0.later hb);have XW1:=hid (XW0.later hb);have R1:=Reads.of XW1.out XU1.out;unfold Reads at R1;have R1:=hid R1;have hl:=lookS hM Tryz.underlying182 (zero_joint w1) v.text HT.out;rw [hV] at hl;have hld:=lookS hM.drew Tryz.underlying182 (zero_joint w1.drew) v.text HT.out;rw [hV] at hld;simp only [ptr,wordV,UV.val,UV.cells] at hcall;have HCall:=hid hcall;clear hM hJ hV hb hcall)
   refine hK.out _ _ ?_ (fun hHeld=>?_)
   ·exact R1.out
   clear hK K;try simp only [Act.put,qk,qll,qm]
   refine wpAnyH_ready (rs:=[3]) (by kernel_rfl) (by simp) ?_;refine AllReadyH.cons rfl (fun K hK=>?_) AllReadyH.nil;go_simp;refine hK.out _ _ ?_ (fun hHeld=>?_)
   ·exact R1.out
   clear hK K;try simp only [Act.put,qk,qll,qm]
   refine wpAnyH_ready (rs:=[7]) (by kernel_rfl) (by simp) ?_;refine AllReadyH.cons rfl (fun K hK=>?_) AllReadyH.nil;go_simp;go_wp2_with ((with_reducible refine (HCall.out _ (by go_grown) (S1.out.at_.later (by go_grown)) (U1.out.later (by go_grown)).arg).mono ?_);intro e w9 hp;replace hp:=PT.from S1.out (by go_grown) hp;obtain ⟨rfl,hA⟩:=hp;exact ⟨rfl,rfl,S1.away.next hA⟩)
  |ok r=>
   obtain ⟨t,m⟩:=r;rw [hr] at HJV;clear hr;unfold ptr wordV;simp only [UV.val,UV.cells];go_enter Tryz.func125,Tryz.ntmps125
   go_upto_region 1 with fail
   generalize hW:World.alloc _ _=w0;obtain ⟨hS,hXW,hXU,hU⟩:=frame HP.out v HU.out w0 hW.symm;have S0:=hid hS;have XW0:=hid hXW;have XU0:=hid hXU;have U0:=hid hU;clear hW hS hXW hXU hU;obtain ⟨xu0c0,xu0c1,xu0c2,xu0c3,xu0c4,xu0c5,xu0c6,xu0c7,xu0c8⟩:=XU0.box.ru x rfl;have xu0cf:=XU0.box.fz;have xu0cl:=XU0.box.lt;obtain ⟨xw0c0,xw0c1,xw0c2⟩:=XW0.box.rv v rfl;have xw0cf:=XW0.box.fz;have xw0cl:=XW0.box.lt;have R0:=hid (Reads.of XW0.out XU0.out);unfold Reads at R0;go_wp2_with fail
   have n1:¬w.heap.size=w.heap.size+1+1:=by omega
   have n2:¬w.heap.size+1+1=w.heap.size:=by omega
   have n3:¬w.heap.size+1=w.heap.size+1+1:=by omega
   have n4:¬w.heap.size+1+1=w.heap.size+1:=by omega
   go_region_held3 (fun w'=>w'.cell? ⟨w.heap.size,0,none⟩=some (.int .i64 v.kind)/\w'.cell? ⟨w.heap.size,1,none⟩=some (.string (bytes v.text))/\w'.cell? ⟨w.heap.size,2,none⟩=some (.int .i64 (v.at_:Int))/\
    w'.cell? ⟨w.heap.size+1,0,none⟩=some (.int .i64 x.t.kind)/\w'.cell? ⟨w.heap.size+1,1,none⟩=some (.string x.t.text)/\w'.cell? ⟨w.heap.size+1,2,none⟩=some (.int .i64 x.t.n)/\w'.cell? ⟨w.heap.size+1,3,none⟩=some (.slice x.t.sa x.t.sl x.t.sc)/\w'.cell? ⟨w.heap.size+1,4,none⟩=some (.slice x.t.aa x.t.al x.t.ac)/\w'.cell? ⟨w.heap.size+1,5,none⟩=some (.slice x.t.ka x.t.kl x.t.kc)/\w'.cell? ⟨w.heap.size+1,6,none⟩=some (.slice x.ga x.gl x.gc)/\w'.cell? ⟨w.heap.size+1,7,none⟩=some (.bool x.cap)/\w'.cell? ⟨w.heap.size+1,8,none⟩=some (.int .i64 x.at_))
    (first|(with_reducible exact R2.out)|(with_reducible exact R1.out)|(with_reducible exact R0.out)|go_keep|((try dsimp only);(repeat' apply And.intro);(all_goals go_keep)))
    (first
     |(go_at_call 157;(with_reducible refine (joints_calls _).mono ?_);rintro e w1 ⟨mb,b1,b2,b3,b4,b5,b6,b7,b8,b9,rfl,hM,hJ⟩;obtain ⟨j,caps,hV,hcf,hcall⟩:=HJV.out _ _ (S0.at_.later (by go_grown)) _ _ _ _ _ _ _ _ _ _ hJ;have hb:=Start.then S0.out hJ.below (by go_grown);have S1:=hid (S0.later hb);have U1:=hid (U0.later hb);have XU1:=hid (XU0.later hb);have XW1:=hid (XW0.later hb);have R1:=Reads.of XW1.out XU1.out;unfold Reads at R1;have R1:=hid R1;have hl:=lookS hM Tryz.underlying182 (zero_joint w1) v.text HT.out;rw [hV] at hl;have hld:=lookS hM.drew Tryz.underlying182 (zero_joint w1.drew) v.text HT.out;rw [hV] at hld;simp only [ptr,wordV,UV.val,UV.cells] at hcall;have HCall:=hid hcall;clear hM hJ hV hb hcall)
     |((with_reducible refine (HCall.out _ (by go_grown) (S1.out.at_.later (by go_grown)) (U1.out.later (by go_grown)).arg).mono ?_);intro e w2 hp;replace hp:=PT.from S1.out (by go_grown) hp;obtain ⟨y2,G2,rfl,hO,hG,hP,hA⟩:=hp;have S2:=hid (S1.moved hA hP);have T2:=hid (Tm.new S1.out hO hG HU.ne hA.size (fun b hb=>Nat.lt_of_lt_of_le (U1.old b hb) (qi U1.le U1.hi_)));have XU2:=hid (XU1.moved hA);have XW2:=hid (XW1.moved hA);have R2:=Reads.of XW2.out XU2.out;unfold Reads at R2;have R2:=hid R2;clear hO hG hP hA;simp only [TV.val,TV.cells];obtain ⟨c0,c1,c2,c3,c4,c5⟩:=S2.box.rz rfl;have cf:=S2.box.fz;have cl:=S2.box.lt))
   all_goals
    go_wp2_with fail
    refine bodyPost_ret (v:=y2.val) (by simp [results,Tryz.results125,nodeV,TV.val,TV.cells,c0,c1,c2,c3,c4,c5,cf,go_sem]) rfl ?_;exact T2.ends S2.out S1.box.lt HL.out _ _ _ _ _ _
end Pz
end Go.Proofs.YtimcmghhbdfjfaaGreatDoor
