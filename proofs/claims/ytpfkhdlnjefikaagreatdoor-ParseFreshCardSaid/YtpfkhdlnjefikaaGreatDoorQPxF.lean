/- Package parse: bracket. -/
import Derived.Test.YtpfkhdlnjefikaaGreatDoorQPxAB
set_option linter.unusedVariables false
set_option linter.unusedSimpArgs false
namespace Go.Proofs.YtpfkhdlnjefikaaGreatDoor
open Go.RowKit
namespace Pz
theorem Un.wide {s:PS} {F:List Nat} {lo hi:Nat} {w:World} {u:U} {x:UV} {G:List Nat} (h:Un s F lo hi w u x G):Un s F lo w.heap.size w u x G:=⟨h.own,h.from_.mono (Nat.le_refl _) h.hi_,Nat.le_refl _,h.np,Nat.le_trans h.le h.hi_,h.old⟩
theorem tie_is {s:PS} {n o:Nat} {b:Bool} (hb:tie s.ws n=b) (W:World) (h:PAt W s n o):Calls Tryz.prog 238 #[.pointer (some ⟨s.pb,0,none⟩)] W fun e w'=>e=.returned (.bool b)/\Below W.heap.size W w':=hb▸tie_calls s n o W h
theorem set_comm6 (w:World) {p g:Nat} (h:p≠g) (m:Nat) (s:Value) (y:TV):sixAt (w.setCell ⟨p,6,none⟩ s) g m y=(sixAt w g m y).setCell ⟨p,6,none⟩ s:=by
 have hc:∀ (W:World) (q:Nat) (u:Value),(W.setCell ⟨p,6,none⟩ s).setCell ⟨g,q,none⟩ u=(W.setCell ⟨g,q,none⟩ u).setCell ⟨p,6,none⟩ s:=fun W q u=>by
  unfold World.setCell
  simp only
  congr 1
  apply Array.ext_getElem?
  intro i
  simp only [Array.getElem?_modify]
  by_cases h1:p=i
  ·by_cases h2:g=i
   ·exact absurd (h1.trans h2.symm) h
   ·simp [h1,h2]
  ·by_cases h2:g=i
   ·simp [h1,h2]
   ·simp [h1,h2]
 unfold sixAt
 rw [hc,hc,hc,hc,hc,hc]
theorem len_max {a L:Nat} (h:a<=L) (hL:L<=1048576):a+1<=maxLen/\(a+1)*104<=140737488355328:=by
 unfold maxLen
 omega
theorem same_below {B:Nat} {w7 wb w9:World} {row:Option Nat} (_:wb.grownBy w9 row) (h:Below B w7 wb):Below B w7 wb:=h
theorem wrap_pred {K L:Nat} (hK:L=K+1) (h:L<=1048576):wrap64 ((L:Int)-1)=K/\wrap64 (K:Int)=K/\wrap64 (L:Int)=L/\(K:Int)<(L:Int)/\K<L:=by
 subst hK
 unfold wrap64
 omega
set_option maxRecDepth 100000 in
set_option maxHeartbeats 2000000 in
theorem bracket_step {s:PS} {f:Nat} (hun:CUnit s f) (hfr:CFrom s f):CBracket s (f+1):=by
 intro g hg v n o ub w0 w hS hL hat hD hn
 cases g with
 |zero=>unfold need at hn;omega
 |succ g=>
 obtain ⟨m0,hm0,hmz0,hmz1,hmz2⟩:=info_parts info_unit
 obtain ⟨t0,ht0,htz0,htz1,htz2⟩:=info_parts info_term1
 obtain ⟨R0,hR0⟩:∃ R0,bracket s.ws s.e (g+1) v n o=R0:=⟨_,rfl⟩
 rw [hR0]
 rw [bracket] at hR0
 have HOk:=hid hS.at_.ok
 have HG:=hid hg
 have HN:=hid hn
 have HDp:=hid hD
 have HUN:=hid hun
 have HFR:=hid hfr
 have S0:=hid hS
 have L0:=hid hL
 unfold ptr
 clear hg hS hL hat hD hn hun hfr
 cases hb:begins s.ws n with
 |false=>
  rw [if_pos hb] at hR0
  have HEq:=hid hR0
  have HBg:=hid (fun W h=>begins_is (o:=o) hb W h)
  clear hb hR0
  go_enter Tryz.func202,Tryz.ntmps202
  go_wp2_with (first
   |(go_at_call 27;refine (wrong_calls _ _).mono ?_;rintro e w9 ⟨rfl,rfl⟩)
   |(go_at_call 29;refine (place_calls s _ _ _ (S1.out.at_.later (by go_grown))).mono ?_;rintro e w2 ⟨rfl,hb⟩;have hb0:=hb;have hb:=Start.then S1.out hb (by go_grown);have S2:=hid (S1.out.later hb);clear hb hb0)
   |(go_at_call 83;refine (HBg.out _ (S0.out.at_.later (by go_grown))).mono ?_;rintro e w1 ⟨rfl,hb⟩;have hb0:=hb;have hb:=Start.then S0.out hb (by go_grown);have S1:=hid (S0.out.later hb);clear hb hb0))
  all_goals exact ⟨rfl,by rw [<-HEq.out];exact ⟨rfl,S2.out.away⟩⟩
 |true=>
 have hlt:=begins_lt hb
 rw [if_neg (by rw [hb];simp)] at hR0
 have HBg:=hid (fun W h=>begins_is (o:=o) hb W h)
 have HUc:=hid (fun W (h:PAt W s n o)=>HUN.out g (by have:=HG.out;omega) n o W h HDp.out hlt (by have:=HN.out;unfold need at*;omega))
 have hs2:=(sound (fun i w h=>(HOk.out.word i w h).1) g).unit n o hlt (by have:=HN.out;unfold need at*;omega)
 unfold ptr at HUc
 have HLt:=hid hlt
 clear hb hlt
 cases hr:unit s.ws s.e g n o with
 |bad c p=>
  rw [hr] at HUc hR0
  have HEq:=hid hR0
  clear hR0 hr hs2
  go_enter Tryz.func202,Tryz.ntmps202
  go_wp2_with (first
   |(go_at_call 111;refine (HUc.out _ (S1.out.at_.later (by go_grown))).mono ?_;intro e w9 hp;replace hp:=PU.from S1.out (by go_grown) hp;obtain ⟨rfl,hA⟩:=hp)
   |(go_at_call 83;refine (HBg.out _ (S0.out.at_.later (by go_grown))).mono ?_;rintro e w1 ⟨rfl,hb⟩;have hb0:=hb;have hb:=Start.then S0.out hb (by go_grown);have S1:=hid (S0.out.later hb);clear hb hb0))
  all_goals exact ⟨rfl,by rw [<-HEq.out];exact ⟨rfl,S1.out.away.next hA⟩⟩
 |ok r2=>
 obtain ⟨u2,m2⟩:=r2
 rw [hr] at HUc hR0 hs2
 have HM2:=hid (show n<m2/\m2<=s.ws.length from hs2.2)
 simp only [R.andThen] at hR0
 clear hr hs2
 cases ht:tie s.ws m2 with
 |false=>
  rw [if_pos ht] at hR0
  have HTi:=hid (fun W h=>tie_is (o:=o) ht W h)
  have HFr:=hid (fun (b:Nat) (y:UV) (G:List Nat) W (h:PAt W s m2 o) (hU:Us W (.slice (some ⟨b,0,none⟩) 1 1) [u2] [y] [G]) (hnd:(rowB (.slice (some ⟨b,0,none⟩) 1 1)++[G].flatten).Nodup) (hp:s.pb ∉ rowB (.slice (some ⟨b,0,none⟩) 1 1)++[G].flatten)=>
   HFR.out g (by have:=HG.out;omega) m2 o (.slice (some ⟨b,0,none⟩) 1 1) [u2] [y] [G] W h HDp.out HM2.out.2 hU hnd hp (.inl (by simp)) (by have:=HM2.out;simp;omega) (fun A n c e=>by cases e;exact Nat.le_refl _) (by have:=HN.out;have:=HM2.out;unfold need at*;omega))
  unfold ptr at HFr
  clear ht
  cases hr:fromU s.ws s.e g m2 o [u2] with
  |bad c p=>
   rw [hr] at HFr hR0
   have HEq:=hid hR0
   clear hR0 hr
   go_enter Tryz.func202,Tryz.ntmps202
   go_wp2_with (first
    |(go_at_call 238;refine (HTi.out _ (S2.out.at_.later (by go_grown))).mono ?_;rintro e w3 ⟨rfl,hb⟩;have hb0:=hb;have hb:=Start.then S2.out hb (by go_grown);have S3:=hid (S2.out.later hb);have U3:=hid (U2.out.later hb);have XU3:=hid ((Bx.new S2.out y2.cells 156).later hb0);obtain ⟨xu3c0,xu3c1,xu3c2,xu3c3,xu3c4,xu3c5,xu3c6,xu3c7,xu3c8⟩:=XU3.out.box.ru y2 rfl;have xu3cf:=XU3.out.box.fz;have xu3cl:=XU3.out.box.lt;clear hb hb0)
    |(go_at_call 111;refine (HUc.out _ (S1.out.at_.later (by go_grown))).mono ?_;intro e w2 hp;replace hp:=PU.from S1.out (by go_grown) hp;obtain ⟨y2,G2,rfl,hO,hG,hP,hA⟩:=hp;have S2:=hid (S1.out.moved hA hP);have U2:=hid (Un.new S1.out hO hG (by simp) hA.size (by simp));clear hO hG hP hA;simp only [UV.val,UV.cells])
    |(go_at_call 83;refine (HBg.out _ (S0.out.at_.later (by go_grown))).mono ?_;rintro e w1 ⟨rfl,hb⟩;have hb0:=hb;have hb:=Start.then S0.out hb (by go_grown);have S1:=hid (S0.out.later hb);clear hb hb0)
    |(go_at_call 84;obtain ⟨hU1,hF1⟩:=us_one S3.out U3.out.wide S1.out.box.lt;have hb4:Below w3.heap.size w3 (w3.alloc (.cells y2.cells 156)):=(Below.refl _ _).alloc (Nat.le_refl _) _;refine (HFr.out _ _ _ _ ((S3.out.later hb4).at_) hU1 hF1.nodup (fun hm=>by have:=(From.lt0 hF1 _ hm).1;have:=L0.out.pb;omega)).mono ?_;intro e w4 hp;obtain ⟨rfl,hA⟩:=hp;exact ⟨rfl,by rw [<-HEq.out];exact ⟨rfl,(S3.out.later hb4).away.next hA⟩⟩))
  |ok r4=>
  obtain ⟨t4,m4⟩:=r4
  rw [hr] at HFr hR0
  simp only [R.andThen] at hR0
  clear hr
  have HTk:=hid (fun W (h:PAt W s m4 o)=>takes_calls s m4 o [41] W h)
  cases hr:takes s.ws s.e m4 [41] with
  |bad c p=>
   rw [hr] at HTk hR0
   have HEq:=hid hR0
   clear hR0 hr
   go_enter Tryz.func202,Tryz.ntmps202
   go_upto_region 5 with (first
    |(go_at_call 238;refine (HTi.out _ (S2.out.at_.later (by go_grown))).mono ?_;rintro e w3 ⟨rfl,hb⟩;have hb0:=hb;have hb:=Start.then S2.out hb (by go_grown);have S3:=hid (S2.out.later hb);have U3:=hid (U2.out.later hb);have XU3:=hid ((Bx.new S2.out y2.cells 156).later hb0);obtain ⟨xu3c0,xu3c1,xu3c2,xu3c3,xu3c4,xu3c5,xu3c6,xu3c7,xu3c8⟩:=XU3.out.box.ru y2 rfl;have xu3cf:=XU3.out.box.fz;have xu3cl:=XU3.out.box.lt;clear hb hb0)
    |(go_at_call 111;refine (HUc.out _ (S1.out.at_.later (by go_grown))).mono ?_;intro e w2 hp;replace hp:=PU.from S1.out (by go_grown) hp;obtain ⟨y2,G2,rfl,hO,hG,hP,hA⟩:=hp;have S2:=hid (S1.out.moved hA hP);have U2:=hid (Un.new S1.out hO hG (by simp) hA.size (by simp));clear hO hG hP hA;simp only [UV.val,UV.cells])
    |(go_at_call 83;refine (HBg.out _ (S0.out.at_.later (by go_grown))).mono ?_;rintro e w1 ⟨rfl,hb⟩;have hb0:=hb;have hb:=Start.then S0.out hb (by go_grown);have S1:=hid (S0.out.later hb);clear hb hb0)
    |(go_at_call 84;obtain ⟨hU1,hF1⟩:=us_one S3.out U3.out.wide S1.out.box.lt;have hb4:Below w3.heap.size w3 (w3.alloc (.cells y2.cells 156)):=(Below.refl _ _).alloc (Nat.le_refl _) _;refine (HFr.out _ _ _ _ ((S3.out.later hb4).at_) hU1 hF1.nodup (fun hm=>by have:=(From.lt0 hF1 _ hm).1;have:=L0.out.pb;omega)).mono ?_;intro e w4 hp;obtain ⟨y4,G4,rfl,hO,hG,hP,hA⟩:=hp;have S4:=hid ((S3.out.later hb4).moved hA hP);have T4:=hid (tm_of_row hO hG hF1 (by simp) (by have:=S3.out.box.lt;simp;omega) hA.size L0.out.pb);obtain ⟨u4c0,u4c1,u4c2,u4c3,u4c4,u4c5,u4c6,u4c7,u4c8⟩:=S4.out.box.r9 (.int .i64 0) (.string ⟨#[]⟩) (.int .i64 0) (.slice none 0 0) (.slice none 0 0) (.slice none 0 0) (.slice none 0 0) (.bool false) (.int .i64 (v.at_:Int)) rfl;have u4cf:=S4.out.box.fz;have u4cl:=S4.out.box.lt;clear hU1 hF1 hb4 hO hG hP hA;simp only [TV.val,TV.cells]))
   generalize hWs:World.setCell _ _ _=w5
   have hS5:=S4.out.lay y4
   have hT5:=T4.out.six (b:=ub) (m:=0) (y':=y4) (T4.out.above (Nat.lt_succ_self _))
   rw [show sixAt w4 ub 0 y4=w5 from hWs] at hS5 hT5
   have S5:=hid hS5
   have T5:=hid hT5
   clear hS5 hT5 hWs u4c0 u4c1 u4c2 u4c3 u4c4 u4c5 u4c6 u4c7 u4c8 u4cf u4cl
   go_wp2_with (go_at_call 204;refine (HTk.out _ (S5.out.at_.later (by go_grown))).mono ?_;intro e w9 hp;replace hp:=PN.from S5.out (by go_grown) hp;obtain ⟨rfl,hA⟩:=hp)
   all_goals exact ⟨rfl,by rw [<-HEq.out];exact ⟨rfl,S5.out.away.next hA⟩⟩
  |ok m5=>
   rw [hr] at HTk hR0
   have HEq:=hid hR0
   clear hR0 hr
   go_enter Tryz.func202,Tryz.ntmps202
   go_upto_region 5 with (first
    |(go_at_call 238;refine (HTi.out _ (S2.out.at_.later (by go_grown))).mono ?_;rintro e w3 ⟨rfl,hb⟩;have hb0:=hb;have hb:=Start.then S2.out hb (by go_grown);have S3:=hid (S2.out.later hb);have U3:=hid (U2.out.later hb);have XU3:=hid ((Bx.new S2.out y2.cells 156).later hb0);obtain ⟨xu3c0,xu3c1,xu3c2,xu3c3,xu3c4,xu3c5,xu3c6,xu3c7,xu3c8⟩:=XU3.out.box.ru y2 rfl;have xu3cf:=XU3.out.box.fz;have xu3cl:=XU3.out.box.lt;clear hb hb0)
    |(go_at_call 111;refine (HUc.out _ (S1.out.at_.later (by go_grown))).mono ?_;intro e w2 hp;replace hp:=PU.from S1.out (by go_grown) hp;obtain ⟨y2,G2,rfl,hO,hG,hP,hA⟩:=hp;have S2:=hid (S1.out.moved hA hP);have U2:=hid (Un.new S1.out hO hG (by simp) hA.size (by simp));clear hO hG hP hA;simp only [UV.val,UV.cells])
    |(go_at_call 83;refine (HBg.out _ (S0.out.at_.later (by go_grown))).mono ?_;rintro e w1 ⟨rfl,hb⟩;have hb0:=hb;have hb:=Start.then S0.out hb (by go_grown);have S1:=hid (S0.out.later hb);clear hb hb0)
    |(go_at_call 84;obtain ⟨hU1,hF1⟩:=us_one S3.out U3.out.wide S1.out.box.lt;have hb4:Below w3.heap.size w3 (w3.alloc (.cells y2.cells 156)):=(Below.refl _ _).alloc (Nat.le_refl _) _;refine (HFr.out _ _ _ _ ((S3.out.later hb4).at_) hU1 hF1.nodup (fun hm=>by have:=(From.lt0 hF1 _ hm).1;have:=L0.out.pb;omega)).mono ?_;intro e w4 hp;obtain ⟨y4,G4,rfl,hO,hG,hP,hA⟩:=hp;have S4:=hid ((S3.out.later hb4).moved hA hP);have T4:=hid (tm_of_row hO hG hF1 (by simp) (by have:=S3.out.box.lt;simp;omega) hA.size L0.out.pb);obtain ⟨u4c0,u4c1,u4c2,u4c3,u4c4,u4c5,u4c6,u4c7,u4c8⟩:=S4.out.box.r9 (.int .i64 0) (.string ⟨#[]⟩) (.int .i64 0) (.slice none 0 0) (.slice none 0 0) (.slice none 0 0) (.slice none 0 0) (.bool false) (.int .i64 (v.at_:Int)) rfl;have u4cf:=S4.out.box.fz;have u4cl:=S4.out.box.lt;clear hU1 hF1 hb4 hO hG hP hA;simp only [TV.val,TV.cells]))
   generalize hWs:World.setCell _ _ _=w5
   have hS5:=S4.out.lay y4
   have hT5:=T4.out.six (b:=ub) (m:=0) (y':=y4) (T4.out.above (Nat.lt_succ_self _))
   rw [show sixAt w4 ub 0 y4=w5 from hWs] at hS5 hT5
   have S5:=hid hS5
   have T5:=hid hT5
   clear hS5 hT5 hWs u4c0 u4c1 u4c2 u4c3 u4c4 u4c5 u4c6 u4c7 u4c8 u4cf u4cl
   go_wp2_with (go_at_call 204;refine (HTk.out _ (S5.out.at_.later (by go_grown))).mono ?_;intro e w6 hp;have hA0:=hp.2.2;replace hp:=PN.from S5.out (by go_grown) hp;obtain ⟨rfl,hP,hA⟩:=hp;have S6:=hid (S5.out.moved hA hP);have T6:=hid (T5.out.moved hA);clear hP hA hA0)
   all_goals
    refine bodyPost_ret (v:=.tuple #[]) (by simp [results,Tryz.results202,go_sem]) rfl ?_
    rw [<-HEq.out]
    exact PB.ends S6.out T6.out (Nat.le_refl _)
 |true=>
  rw [if_neg (by rw [ht];simp)] at hR0
  have HTi0:=hid (fun W h=>tie_is (o:=o) ht W h)
  have HEq:=hid hR0
  have HTrue:=hid ht
  clear hR0 ht
  go_enter Tryz.func202,Tryz.ntmps202
  go_upto_region 7 with (first
   |(go_at_call 238;refine (HTi0.out _ (S2.out.at_.later (by go_grown))).mono ?_;rintro e w3 ⟨rfl,hb⟩;have hb0:=hb;have hb:=Start.then S2.out hb (by go_grown);have S3:=hid (S2.out.later hb);have U3:=hid (U2.out.later hb);have XU3:=hid ((Bx.new S2.out y2.cells 156).later hb0);obtain ⟨xu3c0,xu3c1,xu3c2,xu3c3,xu3c4,xu3c5,xu3c6,xu3c7,xu3c8⟩:=XU3.out.box.ru y2 rfl;have xu3cf:=XU3.out.box.fz;have xu3cl:=XU3.out.box.lt;clear hb hb0)
   |(go_at_call 111;refine (HUc.out _ (S1.out.at_.later (by go_grown))).mono ?_;intro e w2 hp;replace hp:=PU.from S1.out (by go_grown) hp;obtain ⟨y2,G2,rfl,hO,hG,hP,hA⟩:=hp;have S2:=hid (S1.out.moved hA hP);have U2:=hid (Un.new S1.out hO hG (by simp) hA.size (by simp));clear hO hG hP hA;simp only [UV.val,UV.cells])
   |(go_at_call 83;refine (HBg.out _ (S0.out.at_.later (by go_grown))).mono ?_;rintro e w1 ⟨rfl,hb⟩;have hb0:=hb;have hb:=Start.then S0.out hb (by go_grown);have S1:=hid (S0.out.later hb);clear hb hb0))
  generalize hWb:World.alloc w3 _=w4
  have hb4:Below w3.heap.size w3 w4:=hWb▸(Below.refl _ _).alloc (Nat.le_refl _) _
  obtain ⟨hU1,hF1⟩:=us_one S3.out U3.out.wide S1.out.box.lt
  have hs4:w4.heap.size=w3.heap.size+1:=by rw [<-hWb];simp
  rw [show w3.alloc (.cells y2.cells 156)=w4 from hWb] at hU1
  have HTL:=hid (show TL s w0 o ub R0 (f+1) v m2 (.slice (some ⟨w3.heap.size,0,none⟩) 1 1) [u2] w4 from
   ⟨S3.out.later hb4,⟨[y2],[G2],hU1,by rw [hs4];exact hF1⟩,.inl (fun A n c e=>by cases e;exact Nat.le_refl _),⟨g,by have:=HG.out;omega,by have:=HN.out;have:=HM2.out;unfold need at*;omega,HEq.out⟩,⟨HM2.out.2,by have:=HM2.out;simp;omega⟩,⟨by simp,.inl HTrue.out⟩⟩)
  clear hb4 hU1 hF1 hs4 hWb
  go_wp2_with fail
  go_loopw [5] (fun lv w10=>∃ (n1:Nat) (l:List U),TL s w0 o ub R0 (f+1) v n1 lv l w10) (fun _ w10=>s.ws.length-nextOf s.pb w10)
  case atStart=>exact ⟨m2,[u2],HTL.out⟩
  case round=>
   obtain ⟨w10,hw10⟩:∃ w10,w10=wr:=⟨_,rfl⟩
   subst hw10
   obtain ⟨n1,l,htl⟩:=hrel
   obtain ⟨xs1,Fs1,hus1,hF1⟩:=htl.rows
   obtain ⟨g1,hg1,hn1,heq⟩:=htl.eq
   have S10:=hid htl.start
   have HRw10:=hid hus1
   have HFr10:=hid hF1
   have HRoom:=hid htl.room
   have HLen1:=hid (And.intro htl.len (show s.ws.length<=1048576 from HOk.out.len))
   have HNe:=hid htl.ne
   have HNX:=hid htl.start.at_.nextOf
   have HG1:=hid (And.intro hg1 hn1)
   clear htl hus1 hF1
   cases g1 with
   |zero=>unfold need at hn1;omega
   |succ g1=>
    clear hg1 hn1
    rw [ties] at heq
    obtain ⟨K,hK⟩:∃ K,l.length=K+1:=⟨l.length-1,by have:=List.length_pos_iff.2 HNe.out.1;omega⟩
    have HWR:=hid (wrap_pred hK (Nat.le_trans HLen1.out.1.2 (Nat.le_trans HLen1.out.1.1 HLen1.out.2)))
    obtain ⟨u,hu⟩:∃ u,l[K]? =some u:=⟨_,List.getElem?_eq_getElem (by omega)⟩
    obtain ⟨x,G,gb,cap1,hx,hG,hO,hv0,hc1,hc2,hgb,hcells⟩:=us_cell HRw10.out hu
    subst hv0
    have HO:=hid (fun W (hb:Below w10.heap.size w10 W)=>hO.kept (fun b hb'=>hb.block b (hO.lt b hb')))
    have HC:=hid (fun W (hb:Below w10.heap.size w10 W) (q:Nat) (c:Value) (hq:x.cells[q]? =some c)=>show W.cell? ⟨gb,K*9+q,none⟩=some c from (cell_of_heap (hb.block _ hgb)).trans (hcells q c hq))
    have HAt:=hid hO.at_
    have HCap:=hid (And.intro hc1 hc2)
    cases ht1:tie s.ws n1 with
    |false=>
     rw [if_pos ht1] at heq
     have HTi:=hid (fun W h=>tie_is (o:=o) ht1 W h)
     have HTw:=hid (show 2<=l.length from HNe.out.2.resolve_left (by rw [ht1];simp))
     have HTk:=hid (fun W (h:PAt W s n1 o)=>takes_calls s n1 o [41] W h)
     clear ht1 hx hG hO hc1 hc2 hgb hcells hu hK
     cases hr:takes s.ws s.e n1 [41] with
     |bad c p=>
      rw [hr] at HTk heq
      have HEq2:=hid heq
      clear heq hr
      go_wp2_with (first
       |(go_at_call 238;refine (HTi.out _ (S10.out.at_.later (by go_grown))).mono ?_;rintro e w11 ⟨rfl,hb⟩;have hb0:=hb;have hb:=Start.then S10.out hb (by go_grown);have S11:=hid (S10.out.later hb);have HRw11:=hid (HRw10.out.kept keeper_ownU (fun b hb'=>hb.block b (From.lt0 HFr10.out b hb').2));have HFr11:=hid (HFr10.out.mono (Nat.le_refl _) hb.size);clear hb hb0)
       |(go_at_call 204;refine (HTk.out _ (S11.out.at_.later (by go_grown))).mono ?_;intro e w9 hp;replace hp:=PN.from S11.out (by go_grown) hp;obtain ⟨rfl,hA⟩:=hp))
      all_goals exact ⟨rfl,by rw [<-HEq2.out];exact ⟨rfl,S11.out.away.next hA⟩⟩
     |ok m7=>
      rw [hr] at HTk heq
      have HEq2:=hid heq
      clear heq hr
      go_wp2_with (first
       |(go_at_call 238;refine (HTi.out _ (S10.out.at_.later (by go_grown))).mono ?_;rintro e w11 ⟨rfl,hb⟩;have hb0:=hb;have hb:=Start.then S10.out hb (by go_grown);have S11:=hid (S10.out.later hb);have HRw11:=hid (HRw10.out.kept keeper_ownU (fun b hb'=>hb.block b (From.lt0 HFr10.out b hb').2));have HFr11:=hid (HFr10.out.mono (Nat.le_refl _) hb.size);clear hb hb0)
       |(go_at_call 204;refine (HTk.out _ (S11.out.at_.later (by go_grown))).mono ?_;intro e w12 hp;have hA0:=hp.2.2;replace hp:=PN.from S11.out (by go_grown) hp;obtain ⟨rfl,hP,hA⟩:=hp;have S12:=hid (S11.out.moved hA hP);have HRw12:=hid (HRw11.out.away keeper_ownU hA (fun b hb'=>⟨(From.lt0 HFr11.out b hb').2,by have:=(From.lt0 HFr11.out b hb').1;have:=L0.out.pb;omega⟩));have HFr12:=hid (HFr11.out.mono (Nat.le_refl _) hA.size);clear hP hA hA0))
      have HUB:=hid S12.out.box.lt
      have HFl:=hid (fun b (hb:b∈Fs1.flatten)=>(From.lt0 HFr12.out b (List.mem_append_right _ hb)).2)
      have HGbu:=hid (show gb≠ub from fun e=>by have:=(From.lt0 HFr12.out gb (List.mem_append_left _ (mem_rowB.2 rfl))).1;rw [e] at this;omega)
      have HLl:=hid (show l.length<=1048576 from Nat.le_trans HLen1.out.1.2 (Nat.le_trans HLen1.out.1.1 HLen1.out.2))
      have HGL0:=hid (GL.begin (l:=l) (Fs:=Fs1) S12.out)
      go_loopw [86] (fun i w20=>∃ (j cap2:Nat) (A2:Option Addr) (lt:List T),j<=l.length/\i=.int .i64 j/\GL s w0 o ub (v.at_:Int) m7 l Fs1 w12 j A2 cap2 lt w20) (fun i _=>l.length-(intOf i).toNat)
      case atStart=>exact ⟨0,0,none,[],Nat.zero_le _,rfl,HGL0.out⟩
      case round=>
       obtain ⟨w20,hw20⟩:∃ w20,w20=wr:=⟨_,rfl⟩
       subst hw20
       obtain ⟨j,cap2,A2,lt,hj,rfl,hgl⟩:=hrel
       have HGL20:=hid hgl
       have S20:=hid hgl.start
       have HS20:=hid hgl.away.size
       clear hgl
       by_cases hjl:j<l.length
       ·obtain ⟨a,ha⟩:∃ a,l[j]? =some a:=⟨_,List.getElem?_eq_getElem hjl⟩
        obtain ⟨xa,Ga,gba,capa,hxa,hGa,hOa,hva,hca1,hca2,hgba,hcella⟩:=us_cell HRw12.out ha
        obtain rfl:gb=gba:=by simp only [Value.slice.injEq,Option.some.injEq,Addr.mk.injEq] at hva;exact hva.1.1
        have HHa:=hid ha
        have HXa:=hid hxa
        have HCa:=fun (q:Nat) (c:Value) (hq:xa.cells[q]? =some c)=>show w20.cell? ⟨gb,j*9+q,none⟩=some c from (cell_of_heap (HGL20.out.away.block _ hgba HGbu.out)).trans (hcella q c hq)
        have a0:=HCa 0 (.int .i64 xa.t.kind) rfl;have a1:=HCa 1 (.string xa.t.text) rfl;have a2:=HCa 2 (.int .i64 xa.t.n) rfl;have a3:=HCa 3 (.slice xa.t.sa xa.t.sl xa.t.sc) rfl;have a4:=HCa 4 (.slice xa.t.aa xa.t.al xa.t.ac) rfl;have a5:=HCa 5 (.slice xa.t.ka xa.t.kl xa.t.kc) rfl;have a6:=HCa 6 (.slice xa.ga xa.gl xa.gc) rfl;have a7:=HCa 7 (.bool xa.cap) rfl;have a8:=HCa 8 (.int .i64 xa.at_) rfl
        rw [Nat.add_zero] at a0
        have hj1:(j:Int)<(l.length:Int):=Int.ofNat_lt.2 hjl
        have hj0:(0:Int)<=(j:Int):=Int.natCast_nonneg _
        have hjw:wrap64 ((j:Int)+1)=(j:Int)+1:=wrap_succ (Nat.le_trans (Nat.le_of_lt hjl) HLl.out)
        have hn1:¬gb=w20.heap.size:=Nat.ne_of_lt (Nat.lt_of_lt_of_le hgba HS20.out)
        have hn2:¬w20.heap.size=gb:=fun e=>hn1 e.symm
        have HJ:=hid (show j+1<=l.length from hjl)
        clear ha hxa hGa hOa hva hca1 hca2 hgba hcella HCa
        go_upto_region 20 with fail
        generalize hWt:World.alloc w20 _=w21
        have hbt:Below w20.heap.size w20 w21:=hWt▸(Below.refl _ _).alloc (Nat.le_refl _) _
        have HGL21:=hid (HGL20.out.later HFl.out hbt)
        have XA21:=hid (show Bx s w21 w20.heap.size xa.cells from by rw [<-hWt];exact Bx.new S20.out xa.cells _)
        have HS21:=hid (Nat.le_trans HS20.out hbt.size)
        obtain ⟨ys,Gs,hK,hKF,hKs⟩:=HGL21.out.kids
        have HK21:=hid hK
        have HKF21:=hid hKF
        have HKs21:=hid hKs
        have S21:=hid HGL21.out.start
        have HLM:=hid (show lt.length+1<=maxLen/\(lt.length+1)*104<=140737488355328 from len_max HGL21.out.len HLl.out)
        clear hK hKF hKs hWt hbt a0 a1 a2 a3 a4 a5 a6 a7 a8 hn1 hn2
        obtain ⟨t0c,t1c,t2c,t3c,t4c,t5c,t6c,t7c,t8c⟩:=XA21.out.box.ru xa rfl
        have tcf:=XA21.out.box.fz
        have tcl:=XA21.out.box.lt
        obtain ⟨u21c0,u21c1,u21c2,u21c3,u21c4,u21c5,u21c6,u21c7,u21c8⟩:=S21.out.box.r9 (.int .i64 0) (.string ⟨#[]⟩) (.int .i64 0) (.slice none 0 0) (.slice none 0 0) (.slice none 0 0) (.slice A2 lt.length cap2) (.bool false) (.int .i64 (v.at_:Int)) rfl;have u21cf:=S21.out.box.fz;have u21cl:=S21.out.box.lt
        have i0:(0:Int)<=(lt.length:Int):=Int.natCast_nonneg _
        have i1:(lt.length:Int)<(lt.length:Int)+1:=Int.lt_succ _
        go_region_law (refine step_append_lo _ (by rfl) _ _ 32 (by rfl) 34 t0 _ 6 104 Tryz.underlying32 ht0 htz0 htz1 htz2 (by rfl) (by decide) w12.heap.size (by have:=HS21.out;simp;omega) (.slice A2 lt.length cap2) lt.length _ (by rfl) (ownsRow_kept HK21.out.row (fun b hb=>(show Below w21.heap.size w21 _ from by go_grown).block b (ownsRow_lt HK21.out.row b hb).2)) (.inr HGL21.out.room) ⟨w21.heap.size,0,none⟩ 1 1 (TV.cells zeroY).toList (by rfl) (by rfl) (by exact World.news_of_block (heap_new _ _)) (tv_one zeroY) (by decide) HLM.out.1 HLM.out.2 ?_;intro g8 cap w22 hown hgrow hat hlt hgl hbl;have HWA:=hid (show Below w21.heap.size w21 _ from same_below hgrow (by go_grown));have hS8:=(HGL21.out.start.later HWA.out).under L0.out (hbl.mono HUB.out);obtain ⟨u22c0,u22c1,u22c2,u22c3,u22c4,u22c5,u22c6,u22c7,u22c8⟩:=hS8.box.r9 (.int .i64 0) (.string ⟨#[]⟩) (.int .i64 0) (.slice none 0 0) (.slice none 0 0) (.slice none 0 0) (.slice A2 lt.length cap2) (.bool false) (.int .i64 (v.at_:Int)) rfl;have u22cf:=hS8.box.fz;have u22cl:=hS8.box.lt;obtain ⟨hz8,zf⟩:=zero_at (z:=TV.cells zeroY) rfl HK21.out.side.ly hown;have z0:=hz8 0 (.int .i64 0) rfl;have z1:=hz8 1 (.string ⟨#[]⟩) rfl;have z2:=hz8 2 (.int .i64 0) rfl;have z3:=hz8 3 (.slice none 0 0) rfl;have z4:=hz8 4 (.slice none 0 0) rfl;have z5:=hz8 5 (.slice none 0 0) rfl;rw [Nat.add_zero] at z0;have ne1:¬g8=ub:=(fun e=>by have:=HUB.out;rw [e] at hgl;omega);have ne2:¬ub=g8:=(fun e=>ne1 e.symm);clear hS8 hz8)
        all_goals
         have hp:=GL.step HGL21.out HUB.out L0.out HK21.out HKF21.out HKs21.out HRw12.out HFr12.out HHa.out HXa.out rfl HWA.out hown hgrow hat hlt hgl hbl
         have ha:=hp
         unfold sixAt at ha
         have HPa:=hid ha
         rw [<-set_comm6 _ ne2] at hp
         unfold sixAt at hp
         have HPb:=hid hp
         clear ha hp hown hgrow hat hlt hgl hbl z0 z1 z2 z3 z4 z5 zf
         (try go_wp2_with fail)
         go_roundw
         case rel=>first|(with_reducible exact ⟨j+1,cap,some ⟨g8,0,none⟩,lt++[a.t],HJ.out,by go_num,HPa.out⟩)|(with_reducible exact ⟨j+1,cap,some ⟨g8,0,none⟩,lt++[a.t],HJ.out,by go_num,HPb.out⟩)
         case measure=>exact idx_meas (by first|exact Int.lt_succ _|(rw [hjw];exact Int.lt_succ _)) hj0 hj1
       ·obtain rfl:j=l.length:=Nat.le_antisymm hj (Nat.le_of_not_lt hjl)
        go_wp2_with fail
        refine bodyPost_ret (v:=.tuple #[]) (by simp [results,Tryz.results202,go_sem]) rfl ?_
        rw [<-HEq2.out]
        exact GL.ends (xs:=xs1) HGL20.out HUB.out HFr12.out ⟨HTw.out,HLl.out⟩
    |true=>
     rw [if_neg (by rw [ht1];simp),last_at hK,hu] at heq
     dsimp only at heq
     have HTi:=hid (fun W h=>tie_is (o:=o) ht1 W h)
     have hlt1:=tie_lt ht1
     have HLT1:=hid hlt1
     obtain ⟨hw2,hw1,hw3,hlt,hlt'⟩:=HWR.out
     have hlt3:(l.length:Int)<(l.length:Int)+1:=Int.lt_succ _
     have HW1:=hid (show wrap64 ((n1:Int)+1)=((n1+1:Nat):Int) from wrap_succ (Nat.le_trans HLen1.out.1.1 HLen1.out.2))
     have HGB:=hid hgb
     clear ht1 hx hG hO hc1 hc2 hgb hcells hu hlt1
     cases hv:u.verb with
     |false=>
      rw [if_pos hv] at heq
      have HEq2:=hid heq
      clear heq hK
      go_wp2_with (first
       |(go_at_call 238;refine (HTi.out _ (S10.out.at_.later (by go_grown))).mono ?_;rintro e w11 ⟨rfl,hb⟩;have hb0:=hb;have hb:=Start.then S10.out hb (by go_grown);have S11:=hid (S10.out.later hb);have HRw11:=hid (HRw10.out.kept keeper_ownU (fun b hb'=>hb.block b (From.lt0 HFr10.out b hb').2));have HFr11:=hid (HFr10.out.mono (Nat.le_refl _) hb.size);have HB11:=hid hb;have v0:=HC.out w11 HB11.out 0 (.int .i64 x.t.kind) rfl;have v1:=HC.out w11 HB11.out 1 (.string x.t.text) rfl;have v2:=HC.out w11 HB11.out 2 (.int .i64 x.t.n) rfl;have v3:=HC.out w11 HB11.out 3 (.slice x.t.sa x.t.sl x.t.sc) rfl;have v4:=HC.out w11 HB11.out 4 (.slice x.t.aa x.t.al x.t.ac) rfl;have v5:=HC.out w11 HB11.out 5 (.slice x.t.ka x.t.kl x.t.kc) rfl;have v6:=HC.out w11 HB11.out 6 (.slice x.ga x.gl x.gc) rfl;have v7:=HC.out w11 HB11.out 7 (.bool x.cap) rfl;have v8:=HC.out w11 HB11.out 8 (.int .i64 x.at_) rfl;rw [Nat.add_zero] at v0;clear hb hb0)
       |(go_at_call 147;refine (verb_is hv x _ _ (HO.out _ (HB11.out.trans ((show Below w11.heap.size w11 _ from by go_grown).mono HB11.out.size)))).mono ?_;rintro e w12 ⟨rfl,hb⟩;have hb0:=hb;have hb:=Start.then S11.out hb (by go_grown);have S12:=hid (S11.out.later hb);have HRw12:=hid (HRw11.out.kept keeper_ownU (fun b hb'=>hb.block b (From.lt0 HFr11.out b hb').2));have HFr12:=hid (HFr11.out.mono (Nat.le_refl _) hb.size);have HB12:=hid (Below_next HB11.out hb);clear v0 v1 v2 v3 v4 v5 v6 v7 v8;have v8:=HC.out w12 HB12.out 8 (.int .i64 x.at_) rfl;have p12c1:=S12.out.at_.c1;have p12cf:=S12.out.at_.fz;clear hb hb0)
       |(go_at_call 27;refine (wrong_calls _ _).mono ?_;rintro e w9 ⟨rfl,rfl⟩))
      all_goals exact ⟨rfl,by rw [<-HEq2.out,<-HAt.out];exact ⟨rfl,S12.out.away⟩⟩
     |true=>
     rw [if_neg (by rw [hv];simp)] at heq
     have HK:=hid hK
     clear hK
     cases hbn:begins s.ws (n1+1) with
     |false=>
      rw [if_pos hbn] at heq
      have HEq2:=hid heq
      have HBn:=hid (fun W h=>begins_is (o:=o) hbn W h)
      clear heq hbn
      go_upto_region 11 with (first
       |(go_at_call 238;refine (HTi.out _ (S10.out.at_.later (by go_grown))).mono ?_;rintro e w11 ⟨rfl,hb⟩;have hb0:=hb;have hb:=Start.then S10.out hb (by go_grown);have S11:=hid (S10.out.later hb);have HRw11:=hid (HRw10.out.kept keeper_ownU (fun b hb'=>hb.block b (From.lt0 HFr10.out b hb').2));have HFr11:=hid (HFr10.out.mono (Nat.le_refl _) hb.size);have HB11:=hid hb;have v0:=HC.out w11 HB11.out 0 (.int .i64 x.t.kind) rfl;have v1:=HC.out w11 HB11.out 1 (.string x.t.text) rfl;have v2:=HC.out w11 HB11.out 2 (.int .i64 x.t.n) rfl;have v3:=HC.out w11 HB11.out 3 (.slice x.t.sa x.t.sl x.t.sc) rfl;have v4:=HC.out w11 HB11.out 4 (.slice x.t.aa x.t.al x.t.ac) rfl;have v5:=HC.out w11 HB11.out 5 (.slice x.t.ka x.t.kl x.t.kc) rfl;have v6:=HC.out w11 HB11.out 6 (.slice x.ga x.gl x.gc) rfl;have v7:=HC.out w11 HB11.out 7 (.bool x.cap) rfl;have v8:=HC.out w11 HB11.out 8 (.int .i64 x.at_) rfl;rw [Nat.add_zero] at v0;clear hb hb0)
       |(go_at_call 147;refine (verb_is hv x _ _ (HO.out _ (HB11.out.trans ((show Below w11.heap.size w11 _ from by go_grown).mono HB11.out.size)))).mono ?_;rintro e w12 ⟨rfl,hb⟩;have hb0:=hb;have hb:=Start.then S11.out hb (by go_grown);have S12:=hid (S11.out.later hb);have HRw12:=hid (HRw11.out.kept keeper_ownU (fun b hb'=>hb.block b (From.lt0 HFr11.out b hb').2));have HFr12:=hid (HFr11.out.mono (Nat.le_refl _) hb.size);have HB12:=hid (Below_next HB11.out hb);clear v0 v1 v2 v3 v4 v5 v6 v7 v8;have v8:=HC.out w12 HB12.out 8 (.int .i64 x.at_) rfl;have p12c1:=S12.out.at_.c1;have p12cf:=S12.out.at_.fz;clear hb hb0))
      generalize hWn:World.setCell w12 _ _=w13
      have hAn:Away s.pb w12.heap.size w12 w13:=hWn▸(Away.refl _ _ _).setCell (q:=⟨s.pb,1,none⟩) (.inl rfl) _
      have hPn:=S12.out.at_.next (n1+1) (v:=.int .i64 (wrap64 ((n1:Int)+1))) (by rw [HW1.out])
      rw [hWn] at hPn
      have S13:=hid (S12.out.moved hAn hPn)
      have HRw13:=hid (HRw12.out.away keeper_ownU hAn (fun b hb'=>⟨(From.lt0 HFr12.out b hb').2,by have:=(From.lt0 HFr12.out b hb').1;have:=L0.out.pb;omega⟩));have HFr13:=hid (HFr12.out.mono (Nat.le_refl _) hAn.size)
      clear hAn hPn hWn p12c1 p12cf v8
      go_wp2_with (first
       |(go_at_call 27;refine (wrong_calls _ _).mono ?_;rintro e w9 ⟨rfl,rfl⟩)
       |(go_at_call 29;refine (place_calls s _ _ _ (S14.out.at_.later (by go_grown))).mono ?_;rintro e w15 ⟨rfl,hb⟩;have hb0:=hb;have hb:=Start.then S14.out hb (by go_grown);have S15:=hid (S14.out.later hb);clear hb hb0)
       |(go_at_call 83;refine (HBn.out _ (S13.out.at_.later (by go_grown))).mono ?_;rintro e w14 ⟨rfl,hb⟩;have hb0:=hb;have hb:=Start.then S13.out hb (by go_grown);have S14:=hid (S13.out.later hb);clear hb hb0))
      all_goals exact ⟨rfl,by rw [<-HEq2.out];exact ⟨rfl,S15.out.away⟩⟩
     |true=>
     rw [if_neg (by rw [hbn];simp)] at heq
     have HBn:=hid (fun W h=>begins_is (o:=o) hbn W h)
     have hlt2:=begins_lt hbn
     have HUn:=hid (fun W (h:PAt W s (n1+1) o)=>HUN.out g1 (by have:=HG1.out;omega) (n1+1) o W h HDp.out hlt2 (by have:=HG1.out;unfold need at*;omega))
     have hs6:=(sound (fun i w h=>(HOk.out.word i w h).1) g1).unit (n1+1) o hlt2 (by have:=HG1.out;unfold need at*;omega)
     unfold ptr at HUn
     clear hbn hlt2
     cases hr:unit s.ws s.e g1 (n1+1) o with
     |bad c p=>
      rw [hr] at HUn heq
      have HEq2:=hid heq
      clear heq hr hs6
      go_upto_region 11 with (first
       |(go_at_call 238;refine (HTi.out _ (S10.out.at_.later (by go_grown))).mono ?_;rintro e w11 ⟨rfl,hb⟩;have hb0:=hb;have hb:=Start.then S10.out hb (by go_grown);have S11:=hid (S10.out.later hb);have HRw11:=hid (HRw10.out.kept keeper_ownU (fun b hb'=>hb.block b (From.lt0 HFr10.out b hb').2));have HFr11:=hid (HFr10.out.mono (Nat.le_refl _) hb.size);have HB11:=hid hb;have v0:=HC.out w11 HB11.out 0 (.int .i64 x.t.kind) rfl;have v1:=HC.out w11 HB11.out 1 (.string x.t.text) rfl;have v2:=HC.out w11 HB11.out 2 (.int .i64 x.t.n) rfl;have v3:=HC.out w11 HB11.out 3 (.slice x.t.sa x.t.sl x.t.sc) rfl;have v4:=HC.out w11 HB11.out 4 (.slice x.t.aa x.t.al x.t.ac) rfl;have v5:=HC.out w11 HB11.out 5 (.slice x.t.ka x.t.kl x.t.kc) rfl;have v6:=HC.out w11 HB11.out 6 (.slice x.ga x.gl x.gc) rfl;have v7:=HC.out w11 HB11.out 7 (.bool x.cap) rfl;have v8:=HC.out w11 HB11.out 8 (.int .i64 x.at_) rfl;rw [Nat.add_zero] at v0;clear hb hb0)
       |(go_at_call 147;refine (verb_is hv x _ _ (HO.out _ (HB11.out.trans ((show Below w11.heap.size w11 _ from by go_grown).mono HB11.out.size)))).mono ?_;rintro e w12 ⟨rfl,hb⟩;have hb0:=hb;have hb:=Start.then S11.out hb (by go_grown);have S12:=hid (S11.out.later hb);have HRw12:=hid (HRw11.out.kept keeper_ownU (fun b hb'=>hb.block b (From.lt0 HFr11.out b hb').2));have HFr12:=hid (HFr11.out.mono (Nat.le_refl _) hb.size);have HB12:=hid (Below_next HB11.out hb);clear v0 v1 v2 v3 v4 v5 v6 v7 v8;have v8:=HC.out w12 HB12.out 8 (.int .i64 x.at_) rfl;have p12c1:=S12.out.at_.c1;have p12cf:=S12.out.at_.fz;clear hb hb0))
      generalize hWn:World.setCell w12 _ _=w13
      have hAn:Away s.pb w12.heap.size w12 w13:=hWn▸(Away.refl _ _ _).setCell (q:=⟨s.pb,1,none⟩) (.inl rfl) _
      have hPn:=S12.out.at_.next (n1+1) (v:=.int .i64 (wrap64 ((n1:Int)+1))) (by rw [HW1.out])
      rw [hWn] at hPn
      have S13:=hid (S12.out.moved hAn hPn)
      have HRw13:=hid (HRw12.out.away keeper_ownU hAn (fun b hb'=>⟨(From.lt0 HFr12.out b hb').2,by have:=(From.lt0 HFr12.out b hb').1;have:=L0.out.pb;omega⟩));have HFr13:=hid (HFr12.out.mono (Nat.le_refl _) hAn.size)
      clear hAn hPn hWn p12c1 p12cf v8
      go_wp2_with (first
       |(go_at_call 111;refine (HUn.out _ (S14.out.at_.later (by go_grown))).mono ?_;intro e w9 hp;replace hp:=PU.from S14.out (by go_grown) hp;obtain ⟨rfl,hA⟩:=hp)
       |(go_at_call 83;refine (HBn.out _ (S13.out.at_.later (by go_grown))).mono ?_;rintro e w14 ⟨rfl,hb⟩;have hb0:=hb;have hb:=Start.then S13.out hb (by go_grown);have S14:=hid (S13.out.later hb);clear hb hb0))
      all_goals exact ⟨rfl,by rw [<-HEq2.out];exact ⟨rfl,S14.out.away.next hA⟩⟩
     |ok r6=>
     obtain ⟨u6,m6⟩:=r6
     rw [hr] at HUn heq hs6
     simp only [R.andThen] at heq
     have HM6:=hid (show n1+1<m6/\m6<=s.ws.length from hs6.2)
     clear hr hs6
     cases hvv:u6.verb with
     |false=>
      rw [if_pos hvv] at heq
      have HEq2:=hid heq
      clear heq
      go_upto_region 11 with (first
       |(go_at_call 238;refine (HTi.out _ (S10.out.at_.later (by go_grown))).mono ?_;rintro e w11 ⟨rfl,hb⟩;have hb0:=hb;have hb:=Start.then S10.out hb (by go_grown);have S11:=hid (S10.out.later hb);have HRw11:=hid (HRw10.out.kept keeper_ownU (fun b hb'=>hb.block b (From.lt0 HFr10.out b hb').2));have HFr11:=hid (HFr10.out.mono (Nat.le_refl _) hb.size);have HB11:=hid hb;have v0:=HC.out w11 HB11.out 0 (.int .i64 x.t.kind) rfl;have v1:=HC.out w11 HB11.out 1 (.string x.t.text) rfl;have v2:=HC.out w11 HB11.out 2 (.int .i64 x.t.n) rfl;have v3:=HC.out w11 HB11.out 3 (.slice x.t.sa x.t.sl x.t.sc) rfl;have v4:=HC.out w11 HB11.out 4 (.slice x.t.aa x.t.al x.t.ac) rfl;have v5:=HC.out w11 HB11.out 5 (.slice x.t.ka x.t.kl x.t.kc) rfl;have v6:=HC.out w11 HB11.out 6 (.slice x.ga x.gl x.gc) rfl;have v7:=HC.out w11 HB11.out 7 (.bool x.cap) rfl;have v8:=HC.out w11 HB11.out 8 (.int .i64 x.at_) rfl;rw [Nat.add_zero] at v0;clear hb hb0)
       |(go_at_call 147;refine (verb_is hv x _ _ (HO.out _ (HB11.out.trans ((show Below w11.heap.size w11 _ from by go_grown).mono HB11.out.size)))).mono ?_;rintro e w12 ⟨rfl,hb⟩;have hb0:=hb;have hb:=Start.then S11.out hb (by go_grown);have S12:=hid (S11.out.later hb);have HRw12:=hid (HRw11.out.kept keeper_ownU (fun b hb'=>hb.block b (From.lt0 HFr11.out b hb').2));have HFr12:=hid (HFr11.out.mono (Nat.le_refl _) hb.size);have HB12:=hid (Below_next HB11.out hb);clear v0 v1 v2 v3 v4 v5 v6 v7 v8;have v8:=HC.out w12 HB12.out 8 (.int .i64 x.at_) rfl;have p12c1:=S12.out.at_.c1;have p12cf:=S12.out.at_.fz;clear hb hb0))
      generalize hWn:World.setCell w12 _ _=w13
      have hAn:Away s.pb w12.heap.size w12 w13:=hWn▸(Away.refl _ _ _).setCell (q:=⟨s.pb,1,none⟩) (.inl rfl) _
      have hPn:=S12.out.at_.next (n1+1) (v:=.int .i64 (wrap64 ((n1:Int)+1))) (by rw [HW1.out])
      rw [hWn] at hPn
      have S13:=hid (S12.out.moved hAn hPn)
      have HRw13:=hid (HRw12.out.away keeper_ownU hAn (fun b hb'=>⟨(From.lt0 HFr12.out b hb').2,by have:=(From.lt0 HFr12.out b hb').1;have:=L0.out.pb;omega⟩));have HFr13:=hid (HFr12.out.mono (Nat.le_refl _) hAn.size)
      clear hAn hPn hWn p12c1 p12cf v8
      go_wp2_with (first
       |(go_at_call 83;refine (HBn.out _ (S13.out.at_.later (by go_grown))).mono ?_;rintro e w14 ⟨rfl,hb⟩;have hb0:=hb;have hb:=Start.then S13.out hb (by go_grown);have S14:=hid (S13.out.later hb);have HRw14:=hid (HRw13.out.kept keeper_ownU (fun b hb'=>hb.block b (From.lt0 HFr13.out b hb').2));have HFr14:=hid (HFr13.out.mono (Nat.le_refl _) hb.size);clear hb hb0)
       |(go_at_call 111;refine (HUn.out _ (S14.out.at_.later (by go_grown))).mono ?_;intro e w16 hp;replace hp:=PU.from S14.out (by go_grown) hp;obtain ⟨y16,G16,rfl,hO,hG,hP,hA⟩:=hp;have S16:=hid (S14.out.moved hA hP);have V16:=hid (Un.new S14.out hO hG (by simp) hA.size (by simp));have HRw16:=hid (HRw14.out.away keeper_ownU hA (fun b hb'=>⟨(From.lt0 HFr14.out b hb').2,by have:=(From.lt0 HFr14.out b hb').1;have:=L0.out.pb;omega⟩));have HFr16:=hid HFr14.out;clear hO hG hP hA;simp only [UV.val,UV.cells])
       |(at_builtin;refine wpList_append_lo _ rfl _ _ 154 rfl 156 m0 _ 9 144 Tryz.underlying154 hm0 hmz0 hmz1 hmz2 rfl (by decide) (ub+1) (by have:=S16.out.box.lt;simp;omega) (.slice (some ⟨gb,0,none⟩) l.length cap1) l.length _ rfl (HRw16.out.row.alloc _) HRoom.out ⟨w16.heap.size,0,none⟩ 1 1 y16.cells.toList rfl (by simp [UV.cells]) (World.news_of_block (heap_new _ _)) (uv_one y16) (by decide) (by have:=HLen1.out;unfold maxLen;omega) (by have:=HLen1.out;omega) ?_;intro g8 cap w18 hown hgrow hat hlt hgl hbl;obtain ⟨hU18,hF18,hS18⟩:=us_step S16.out L0.out HRw16.out HFr16.out V16.out S14.out.box.lt hown hgrow hat hlt hbl;have S18:=hid hS18;have HRw18:=hid hU18;have HFr18:=hid hF18;have HGL:=hid hgl;obtain ⟨x6,H6,gb6,cap6,hx6,hG6,hO6,hv6,hc61,hc62,hgb6,hcells6⟩:=us_cell hU18 (show (l++[u6])[l.length]? =some u6 from by simp);obtain ⟨rfl,rfl⟩:gb6=g8/\cap6=cap:=(by simp only [Value.slice.injEq,Option.some.injEq,Addr.mk.injEq] at hv6;exact ⟨hv6.1.1.symm,hv6.2.2.symm⟩);have HX6:=hid hO6;have q0:=hcells6 0 (.int .i64 x6.t.kind) rfl;have q1:=hcells6 1 (.string x6.t.text) rfl;have q2:=hcells6 2 (.int .i64 x6.t.n) rfl;have q3:=hcells6 3 (.slice x6.t.sa x6.t.sl x6.t.sc) rfl;have q4:=hcells6 4 (.slice x6.t.aa x6.t.al x6.t.ac) rfl;have q5:=hcells6 5 (.slice x6.t.ka x6.t.kl x6.t.kc) rfl;have q6:=hcells6 6 (.slice x6.ga x6.gl x6.gc) rfl;have q7:=hcells6 7 (.bool x6.cap) rfl;have q8:=hcells6 8 (.int .i64 x6.at_) rfl;rw [Nat.add_zero] at q0;have HC6:=hid (fun W (hb:Below w18.heap.size w18 W)=>show W.cell? ⟨gb6,l.length*9+8,none⟩=some (.int .i64 x6.at_) from (cell_of_heap (hb.block _ hgb6)).trans q8);clear hown hgrow hat hlt hgl hbl hU18 hF18 hS18 hv6 hc61 hc62 hx6 hG6 hO6 hcells6)
       |(go_at_call 147;refine (verb_is hvv x6 _ _ (HX6.out.kept (fun b hb'=>(show Below w18.heap.size w18 _ from by go_grown).block b (HX6.out.lt b hb')))).mono ?_;rintro e w19 ⟨rfl,hb⟩;have hb:=Start.then S18.out hb (by go_grown);have S19:=hid (S18.out.later hb);have HRw19:=hid (HRw18.out.kept keeper_ownU (fun b hb'=>hb.block b (From.lt0 HFr18.out b hb').2));have HFr19:=hid (HFr18.out.mono (Nat.le_refl _) hb.size);have q8':=HC6.out w19 hb;have HGT:=hid hgb6;clear q0 q1 q2 q3 q4 q5 q6 q7 q8;clear hb)
       |(go_at_call 27;refine (wrong_calls _ _).mono ?_;rintro e w9 ⟨rfl,rfl⟩))
      all_goals exact ⟨rfl,by rw [<-HEq2.out,<-HX6.out.at_];exact ⟨rfl,S19.out.away⟩⟩
     |true=>
      rw [if_neg (by rw [hvv];simp)] at heq
      have HEq2:=hid heq
      clear heq
      go_upto_region 11 with (first
       |(go_at_call 238;refine (HTi.out _ (S10.out.at_.later (by go_grown))).mono ?_;rintro e w11 ⟨rfl,hb⟩;have hb0:=hb;have hb:=Start.then S10.out hb (by go_grown);have S11:=hid (S10.out.later hb);have HRw11:=hid (HRw10.out.kept keeper_ownU (fun b hb'=>hb.block b (From.lt0 HFr10.out b hb').2));have HFr11:=hid (HFr10.out.mono (Nat.le_refl _) hb.size);have HB11:=hid hb;have v0:=HC.out w11 HB11.out 0 (.int .i64 x.t.kind) rfl;have v1:=HC.out w11 HB11.out 1 (.string x.t.text) rfl;have v2:=HC.out w11 HB11.out 2 (.int .i64 x.t.n) rfl;have v3:=HC.out w11 HB11.out 3 (.slice x.t.sa x.t.sl x.t.sc) rfl;have v4:=HC.out w11 HB11.out 4 (.slice x.t.aa x.t.al x.t.ac) rfl;have v5:=HC.out w11 HB11.out 5 (.slice x.t.ka x.t.kl x.t.kc) rfl;have v6:=HC.out w11 HB11.out 6 (.slice x.ga x.gl x.gc) rfl;have v7:=HC.out w11 HB11.out 7 (.bool x.cap) rfl;have v8:=HC.out w11 HB11.out 8 (.int .i64 x.at_) rfl;rw [Nat.add_zero] at v0;clear hb hb0)
       |(go_at_call 147;refine (verb_is hv x _ _ (HO.out _ (HB11.out.trans ((show Below w11.heap.size w11 _ from by go_grown).mono HB11.out.size)))).mono ?_;rintro e w12 ⟨rfl,hb⟩;have hb0:=hb;have hb:=Start.then S11.out hb (by go_grown);have S12:=hid (S11.out.later hb);have HRw12:=hid (HRw11.out.kept keeper_ownU (fun b hb'=>hb.block b (From.lt0 HFr11.out b hb').2));have HFr12:=hid (HFr11.out.mono (Nat.le_refl _) hb.size);have HB12:=hid (Below_next HB11.out hb);clear v0 v1 v2 v3 v4 v5 v6 v7 v8;have v8:=HC.out w12 HB12.out 8 (.int .i64 x.at_) rfl;have p12c1:=S12.out.at_.c1;have p12cf:=S12.out.at_.fz;clear hb hb0))
      generalize hWn:World.setCell w12 _ _=w13
      have hAn:Away s.pb w12.heap.size w12 w13:=hWn▸(Away.refl _ _ _).setCell (q:=⟨s.pb,1,none⟩) (.inl rfl) _
      have hPn:=S12.out.at_.next (n1+1) (v:=.int .i64 (wrap64 ((n1:Int)+1))) (by rw [HW1.out])
      rw [hWn] at hPn
      have S13:=hid (S12.out.moved hAn hPn)
      have HRw13:=hid (HRw12.out.away keeper_ownU hAn (fun b hb'=>⟨(From.lt0 HFr12.out b hb').2,by have:=(From.lt0 HFr12.out b hb').1;have:=L0.out.pb;omega⟩));have HFr13:=hid (HFr12.out.mono (Nat.le_refl _) hAn.size)
      clear hAn hPn hWn p12c1 p12cf v8
      go_wp2_with (first
       |(go_at_call 83;refine (HBn.out _ (S13.out.at_.later (by go_grown))).mono ?_;rintro e w14 ⟨rfl,hb⟩;have hb0:=hb;have hb:=Start.then S13.out hb (by go_grown);have S14:=hid (S13.out.later hb);have HRw14:=hid (HRw13.out.kept keeper_ownU (fun b hb'=>hb.block b (From.lt0 HFr13.out b hb').2));have HFr14:=hid (HFr13.out.mono (Nat.le_refl _) hb.size);clear hb hb0)
       |(go_at_call 111;refine (HUn.out _ (S14.out.at_.later (by go_grown))).mono ?_;intro e w16 hp;replace hp:=PU.from S14.out (by go_grown) hp;obtain ⟨y16,G16,rfl,hO,hG,hP,hA⟩:=hp;have S16:=hid (S14.out.moved hA hP);have V16:=hid (Un.new S14.out hO hG (by simp) hA.size (by simp));have HRw16:=hid (HRw14.out.away keeper_ownU hA (fun b hb'=>⟨(From.lt0 HFr14.out b hb').2,by have:=(From.lt0 HFr14.out b hb').1;have:=L0.out.pb;omega⟩));have HFr16:=hid HFr14.out;clear hO hG hP hA;simp only [UV.val,UV.cells])
       |(at_builtin;refine wpList_append_lo _ rfl _ _ 154 rfl 156 m0 _ 9 144 Tryz.underlying154 hm0 hmz0 hmz1 hmz2 rfl (by decide) (ub+1) (by have:=S16.out.box.lt;simp;omega) (.slice (some ⟨gb,0,none⟩) l.length cap1) l.length _ rfl (HRw16.out.row.alloc _) HRoom.out ⟨w16.heap.size,0,none⟩ 1 1 y16.cells.toList rfl (by simp [UV.cells]) (World.news_of_block (heap_new _ _)) (uv_one y16) (by decide) (by have:=HLen1.out;unfold maxLen;omega) (by have:=HLen1.out;omega) ?_;intro g8 cap w18 hown hgrow hat hlt hgl hbl;obtain ⟨hU18,hF18,hS18⟩:=us_step S16.out L0.out HRw16.out HFr16.out V16.out S14.out.box.lt hown hgrow hat hlt hbl;have S18:=hid hS18;have HRw18:=hid hU18;have HFr18:=hid hF18;have HGL:=hid hgl;obtain ⟨x6,H6,gb6,cap6,hx6,hG6,hO6,hv6,hc61,hc62,hgb6,hcells6⟩:=us_cell hU18 (show (l++[u6])[l.length]? =some u6 from by simp);obtain ⟨rfl,rfl⟩:gb6=g8/\cap6=cap:=(by simp only [Value.slice.injEq,Option.some.injEq,Addr.mk.injEq] at hv6;exact ⟨hv6.1.1.symm,hv6.2.2.symm⟩);have HX6:=hid hO6;have q0:=hcells6 0 (.int .i64 x6.t.kind) rfl;have q1:=hcells6 1 (.string x6.t.text) rfl;have q2:=hcells6 2 (.int .i64 x6.t.n) rfl;have q3:=hcells6 3 (.slice x6.t.sa x6.t.sl x6.t.sc) rfl;have q4:=hcells6 4 (.slice x6.t.aa x6.t.al x6.t.ac) rfl;have q5:=hcells6 5 (.slice x6.t.ka x6.t.kl x6.t.kc) rfl;have q6:=hcells6 6 (.slice x6.ga x6.gl x6.gc) rfl;have q7:=hcells6 7 (.bool x6.cap) rfl;have q8:=hcells6 8 (.int .i64 x6.at_) rfl;rw [Nat.add_zero] at q0;have HC6:=hid (fun W (hb:Below w18.heap.size w18 W)=>show W.cell? ⟨gb6,l.length*9+8,none⟩=some (.int .i64 x6.at_) from (cell_of_heap (hb.block _ hgb6)).trans q8);clear hown hgrow hat hlt hgl hbl hU18 hF18 hS18 hv6 hc61 hc62 hx6 hG6 hO6 hcells6)
       |(go_at_call 147;refine (verb_is hvv x6 _ _ (HX6.out.kept (fun b hb'=>(show Below w18.heap.size w18 _ from by go_grown).block b (HX6.out.lt b hb')))).mono ?_;rintro e w19 ⟨rfl,hb⟩;have hb:=Start.then S18.out hb (by go_grown);have S19:=hid (S18.out.later hb);have HRw19:=hid (HRw18.out.kept keeper_ownU (fun b hb'=>hb.block b (From.lt0 HFr18.out b hb').2));have HFr19:=hid (HFr18.out.mono (Nat.le_refl _) hb.size);have q8':=HC6.out w19 hb;have HGT:=hid hgb6;clear q0 q1 q2 q3 q4 q5 q6 q7 q8;clear hb))
      all_goals
       have HTS:=hid (show TL s w0 o ub R0 (f+1) v m6 (.slice (some ⟨gb6,0,none⟩) (l.length+1) cap6) (l++[u6]) w19 from
        ⟨S19.out,⟨_,_,by simpa using HRw19.out,HFr19.out⟩,.inr (fun b hb=>by cases hb;exact HGL.out),⟨g1,by have:=HG1.out;omega,by have:=HG1.out;have:=HM6.out;unfold need at*;omega,HEq2.out⟩,⟨HM6.out.2,by have:=HM6.out;have:=HLen1.out;simp;omega⟩,⟨by simp,.inr (by have:=HK.out;simp;omega)⟩⟩)
       (try go_wp2_with fail)
       go_roundw
       case rel=>exact ⟨m6,l++[u6],HTS.out⟩
       case measure=>
        rw [HTS.out.start.at_.nextOf,HNX.out]
        have:=HM6.out
        have:=HLT1.out
        omega
end Pz
end Go.Proofs.YtpfkhdlnjefikaaGreatDoor
