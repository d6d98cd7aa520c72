/- Package parse. -/
import Derived.Test.YtimcmghhbdfjfaaGreatDoorQPwU
set_option linter.unusedVariables false
set_option linter.unusedSimpArgs false
set_option maxRecDepth 100000
set_option maxHeartbeats 4000000
namespace Go.Proofs.YtimcmghhbdfjfaaGreatDoor
open Go.RowKit
namespace Pz
theorem while_step {s:PS} {f g n o:Nat} {w:World} (hnn:CNoun s f) (hbd:CBody s f) (hg:g<=f) (hP:PAt w s n o) (hD:Deep o) (hn:need s.ws n 7<=g+1) (h1:sees s.ws n [105,102,46]=false) (h2:sees s.ws n [119,104,105,108,101,46]=true):
 Calls Tryz.prog 241 #[ptr s] w (PT 61 s [] w o (sentence s.ws s.e (g+1) n o)):=by
 obtain ⟨m0,hm0,hmz0,hmz1,hmz2⟩:=info_parts info_term1;obtain ⟨R0,hR0⟩:∃ R0,sentence s.ws s.e (g+1) n o=R0:=⟨_,rfl⟩;rw [hR0];rw [sentence,if_neg (by rw [h1];simp),if_pos h2] at hR0;have H1:=hid (fun W h=>sees_is (o:=o) h1 W h);have H2:=hid (fun W h=>sees_is (o:=o) h2 W h);have hlt:=sees_lt h2;have HOk:=hid hP.ok;have HO:=hid (fun W (h:PAt W s n o)=>opens_calls s n o W h hlt (by unfold Deep at hD;omega));have HNN:=hid hnn;have HBD:=hid hbd;have HG:=hid hg;have HN:=hid hn;have HLT:=hid hlt;have HDp:=hid hD;have S0:=hid (Start.new hP zeroT 28);unfold ptr;clear h1 h2 hlt hP hnn hbd hg hn hD;have ho:opens s.ws s.e n o=if 512<o+1 then .bad 2 (place s.ws s.e n) else .ok (n+1,o+1):=rfl
 by_cases hd:512<o+1
 ·rw [if_pos hd] at ho
  rw [ho] at HO hR0;have HEq:=hid hR0;clear hR0 ho hd;go_enter Tryz.func241,Tryz.ntmps241
  go_wp2_with (first
   |(go_at_call 122;refine (H2.out _ (S1.at_.later (by go_grown))).mono ?_;rintro e w2 ⟨rfl,hb⟩;have hb0:=hb;have hb:=Start.then S1.out hb (by go_grown);have S2:=hid (S1.later hb);clear hb hb0)
   |(go_at_call 122;refine (H1.out _ (S0.at_.later (by go_grown))).mono ?_;rintro e w1 ⟨rfl,hb⟩;have hb0:=hb;have hb:=Start.then S0.out hb (by go_grown);have S1:=hid (S0.later hb);clear hb hb0)
   |(go_at_call 155;refine (HO.out _ (S2.at_.later (by go_grown))).mono ?_;intro e w9 hp;replace hp:=PO.from S2.out (by go_grown) hp;obtain ⟨rfl,hA⟩:=hp))
  all_goals exact ⟨rfl,by rw [<-HEq.out];exact ⟨rfl,S2.away.next hA⟩⟩
 rw [if_neg hd] at ho;rw [ho] at HO hR0;have HD1:=hid (show Deep (o+1) from by unfold Deep;omega);simp only [R.andThen] at hR0;clear ho hd;have hs4:=(sound (fun i w h=>(HOk.word i w h).1) g).noun (n+1) (o+1) (by have:=HN.out;have:=HLT.out;unfold need at*;omega);have HC4:=hid (fun W (h:PAt W s (n+1) (o+1))=>HNN.out g HG.out (n+1) (o+1) W h HD1.out (by have:=HN.out;have:=HLT.out;unfold need at*;omega));unfold ptr at HC4;cases hr:noun s.ws s.e g (n+1) (o+1) with
 |bad c p=>
  rw [hr] at HC4 hR0;have HEq:=hid hR0;clear hR0 hr hs4;go_enter Tryz.func241,Tryz.ntmps241
  go_wp2_with (first
   |(go_at_call 122;refine (H2.out _ (S1.at_.later (by go_grown))).mono ?_;rintro e w2 ⟨rfl,hb⟩;have hb0:=hb;have hb:=Start.then S1.out hb (by go_grown);have S2:=hid (S1.later hb);clear hb hb0)
   |(go_at_call 122;refine (H1.out _ (S0.at_.later (by go_grown))).mono ?_;rintro e w1 ⟨rfl,hb⟩;have hb0:=hb;have hb:=Start.then S0.out hb (by go_grown);have S1:=hid (S0.later hb);clear hb hb0)
   |(go_at_call 155;refine (HO.out _ (S2.at_.later (by go_grown))).mono ?_;intro e w3 hp;replace hp:=PO.from S2.out (by go_grown) hp;obtain ⟨rfl,hP,hA⟩:=hp;have S3:=hid (S2.moved hA hP);clear hP hA)
   |(go_at_call 193;refine (HC4.out _ (S3.at_.later (by go_grown))).mono ?_;intro e w9 hp;replace hp:=PT.from S3.out (by go_grown) hp;obtain ⟨rfl,hA⟩:=hp))
  all_goals exact ⟨rfl,by rw [<-HEq.out];exact ⟨rfl,S3.away.next hA⟩⟩
 |ok r4=>
 obtain ⟨t4,m4⟩:=r4;rw [hr] at HC4 hR0 hs4;have HM4:=hid (show n+1<m4/\m4<=s.ws.length from hs4);simp only [R.andThen] at hR0;clear hr hs4;obtain ⟨l1,hl1⟩:∃ l1,l1=[t4]:=⟨_,rfl⟩;have HL1:=hid hl1;have HLen:=hid (show l1.length<=1048576 from by rw [hl1];simp);clear hl1;have HT6:=hid (fun W (h:PAt W s m4 (o+1))=>takes_calls s m4 (o+1) [100,111,46] W h);cases hr:takes s.ws s.e m4 [100,111,46] with
 |bad c p=>
  rw [hr] at HT6 hR0;have HEq:=hid hR0;clear hR0 hr;go_enter Tryz.func241,Tryz.ntmps241
  go_wp2_with (first
   |(go_at_call 122;refine (H2.out _ (S1.at_.later (by go_grown))).mono ?_;rintro e w2 ⟨rfl,hb⟩;have hb0:=hb;have hb:=Start.then S1.out hb (by go_grown);have S2:=hid (S1.later hb);clear hb hb0)
   |(go_at_call 122;refine (H1.out _ (S0.at_.later (by go_grown))).mono ?_;rintro e w1 ⟨rfl,hb⟩;have hb0:=hb;have hb:=Start.then S0.out hb (by go_grown);have S1:=hid (S0.later hb);clear hb hb0)
   |(go_at_call 155;refine (HO.out _ (S2.at_.later (by go_grown))).mono ?_;intro e w3 hp;replace hp:=PO.from S2.out (by go_grown) hp;obtain ⟨rfl,hP,hA⟩:=hp;have S3:=hid (S2.moved hA hP);clear hP hA)
   |(go_at_call 193;refine (HC4.out _ (S3.at_.later (by go_grown))).mono ?_;intro e w4 hp;replace hp:=PT.from S3.out (by go_grown) hp;obtain ⟨y4,G4,rfl,hO,hG,hP,hA⟩:=hp;have S4:=hid (S3.moved hA hP);have T4:=hid (Tm.new S3.out hO hG (by simp) hA.size (by simp));clear hO hG hP hA;simp only [TV.val,TV.cells])
   |(go_at_call 127;refine (made_calls' _ _ _ _ _).mono ?_;rintro e w5 ⟨rfl,hb⟩;have hb0:=hb;have hb:=Start.then S4.out hb (by go_grown);have S5:=hid (S4.later hb);have N5:=hid (Nb.made S4.out T4.out hb0 S3.at_.lt 13 28 HL1.out);clear hb hb0;simp only [nodeV,TV.val,TV.cells])
   |(go_at_call 194;refine (HT6.out _ (S5.at_.later (by go_grown))).mono ?_;intro e w9 hp;replace hp:=PN.from S5.out (by go_grown) hp;obtain ⟨rfl,hA⟩:=hp))
  all_goals exact ⟨rfl,by rw [<-HEq.out];exact ⟨rfl,S5.away.next hA⟩⟩
 |ok m6=>
 rw [hr] at HT6 hR0;have HM6:=hid (show m6=m4+1/\m4<s.ws.length from by
  unfold takes at hr;cases hse:sees s.ws m4 [100,111,46] with
  |true=>rw [hse,if_pos rfl] at hr;injection hr with hr;exact ⟨hr.symm,sees_lt hse⟩
  |false=>rw [hse] at hr;cases hr)
 simp only [R.andThen] at hR0;clear hr;have hs7:=(sound (fun i w h=>(HOk.word i w h).1) g).body m6 (o+1) (by have:=HM6.out;omega) (by have:=HN.out;have:=HM4.out;have:=HM6.out;unfold need at*;omega);have HC7:=hid (fun W (h:PAt W s m6 (o+1))=>HBD.out g HG.out m6 (o+1) W h HD1.out (by have:=HM6.out;omega) (by have:=HN.out;have:=HM4.out;have:=HM6.out;unfold need at*;omega));unfold ptr at HC7;cases hr:body s.ws s.e g m6 (o+1) with
 |bad c p=>
  rw [hr] at HC7 hR0;have HEq:=hid hR0;clear hR0 hr hs7;go_enter Tryz.func241,Tryz.ntmps241
  go_wp2_with (first
   |(go_at_call 122;refine (H2.out _ (S1.at_.later (by go_grown))).mono ?_;rintro e w2 ⟨rfl,hb⟩;have hb0:=hb;have hb:=Start.then S1.out hb (by go_grown);have S2:=hid (S1.later hb);clear hb hb0)
   |(go_at_call 122;refine (H1.out _ (S0.at_.later (by go_grown))).mono ?_;rintro e w1 ⟨rfl,hb⟩;have hb0:=hb;have hb:=Start.then S0.out hb (by go_grown);have S1:=hid (S0.later hb);clear hb hb0)
   |(go_at_call 155;refine (HO.out _ (S2.at_.later (by go_grown))).mono ?_;intro e w3 hp;replace hp:=PO.from S2.out (by go_grown) hp;obtain ⟨rfl,hP,hA⟩:=hp;have S3:=hid (S2.moved hA hP);clear hP hA)
   |(go_at_call 193;refine (HC4.out _ (S3.at_.later (by go_grown))).mono ?_;intro e w4 hp;replace hp:=PT.from S3.out (by go_grown) hp;obtain ⟨y4,G4,rfl,hO,hG,hP,hA⟩:=hp;have S4:=hid (S3.moved hA hP);have T4:=hid (Tm.new S3.out hO hG (by simp) hA.size (by simp));clear hO hG hP hA;simp only [TV.val,TV.cells])
   |(go_at_call 127;refine (made_calls' _ _ _ _ _).mono ?_;rintro e w5 ⟨rfl,hb⟩;have hb0:=hb;have hb:=Start.then S4.out hb (by go_grown);have S5:=hid (S4.later hb);have N5:=hid (Nb.made S4.out T4.out hb0 S3.at_.lt 13 28 HL1.out);clear hb hb0;simp only [nodeV,TV.val,TV.cells])
   |(go_at_call 194;refine (HT6.out _ (S5.at_.later (by go_grown))).mono ?_;intro e w6 hp;have hA0:=hp.2.2;replace hp:=PN.from S5.out (by go_grown) hp;obtain ⟨rfl,hP,hA⟩:=hp;have S6:=hid (S5.moved hA hP);have N6:=hid (N5.moved hA0);have n6c5:=N6.box.cell 5 (.slice (some ⟨w4.heap.size,0,none⟩) 1 1) rfl;have n6cf:=N6.box.fz;have n6cl:=N6.box.lt;clear hP hA hA0))
  refine wp_region_held_drew (S:=fun w'=>w'.cell? ⟨w5.heap.size,5,none⟩=some (.slice (some ⟨w4.heap.size,0,none⟩) 1 1)) (by kernel_rfl) (by exact n6c5) (fun hHeld=>?_);refine wpAnyH_take (i:=0) (v:=?_) rfl (by kernel_rfl) (by kernel_rfl) (by kernel_rfl) (fun _ _ _ h=>h) (Or.inl ⟨by rfl,?_⟩) (by assumption) ?_;rotate_left
  ·intro w hSw
   (try dsimp only at hSw)
   go_simp;try with_reducible rfl
  try simp only [Act.put,qk,qll,qm]
  refine wpAnyH_take (i:=1) (v:=?_) rfl (by kernel_rfl) (by kernel_rfl) (by kernel_rfl) (fun _ _ _ h=>h) (Or.inl ⟨by rfl,?_⟩) (by assumption) ?_;rotate_left
  ·intro w hSw
   (try dsimp only at hSw)
   go_simp;try with_reducible rfl
  try simp only [Act.put,qk,qll,qm]
  refine wpAnyH_take (i:=2) (v:=?_) rfl (by kernel_rfl) (by kernel_rfl) (by kernel_rfl) (fun _ _ _ h=>h) (Or.inl ⟨by rfl,?_⟩) (by assumption) ?_;rotate_left
  ·intro w hSw
   (try dsimp only at hSw)
   go_simp;try with_reducible rfl
  try simp only [Act.put,qk,qll,qm]
  refine wpAnyH_ready (rs:=[3]) (by kernel_rfl) (by simp) ?_;refine AllReadyH.cons rfl (fun K hK=>?_) AllReadyH.nil;go_simp;go_wp2_with (go_at_call 195;refine (HC7.out _ (S6.at_.later (by go_grown))).mono ?_;intro e w9 hp;replace hp:=PT.from S6.out (by go_grown) hp;obtain ⟨rfl,hA⟩:=hp;exact ⟨rfl,by rw [<-HEq.out];exact ⟨rfl,S6.away.next hA⟩⟩)
 |ok r7=>
 obtain ⟨t7,m7⟩:=r7;rw [hr] at HC7 hR0 hs7;have HM7:=hid (show m6<=m7/\m7<=s.ws.length from hs7);simp only [R.andThen] at hR0;clear hr hs7;have HT9:=hid (fun W (h:PAt W s m7 (o+1))=>takes_calls s m7 (o+1) [101,110,100,46] W h);cases hr:takes s.ws s.e m7 [101,110,100,46] with
 |bad c p=>
  rw [hr] at HT9 hR0;have HEq:=hid hR0;clear hR0 hr;go_enter Tryz.func241,Tryz.ntmps241
  go_wp2_with (first
   |(go_at_call 122;refine (H2.out _ (S1.at_.later (by go_grown))).mono ?_;rintro e w2 ⟨rfl,hb⟩;have hb0:=hb;have hb:=Start.then S1.out hb (by go_grown);have S2:=hid (S1.later hb);clear hb hb0)
   |(go_at_call 122;refine (H1.out _ (S0.at_.later (by go_grown))).mono ?_;rintro e w1 ⟨rfl,hb⟩;have hb0:=hb;have hb:=Start.then S0.out hb (by go_grown);have S1:=hid (S0.later hb);clear hb hb0)
   |(go_at_call 155;refine (HO.out _ (S2.at_.later (by go_grown))).mono ?_;intro e w3 hp;replace hp:=PO.from S2.out (by go_grown) hp;obtain ⟨rfl,hP,hA⟩:=hp;have S3:=hid (S2.moved hA hP);clear hP hA)
   |(go_at_call 193;refine (HC4.out _ (S3.at_.later (by go_grown))).mono ?_;intro e w4 hp;replace hp:=PT.from S3.out (by go_grown) hp;obtain ⟨y4,G4,rfl,hO,hG,hP,hA⟩:=hp;have S4:=hid (S3.moved hA hP);have T4:=hid (Tm.new S3.out hO hG (by simp) hA.size (by simp));clear hO hG hP hA;simp only [TV.val,TV.cells])
   |(go_at_call 127;refine (made_calls' _ _ _ _ _).mono ?_;rintro e w5 ⟨rfl,hb⟩;have hb0:=hb;have hb:=Start.then S4.out hb (by go_grown);have S5:=hid (S4.later hb);have N5:=hid (Nb.made S4.out T4.out hb0 S3.at_.lt 13 28 HL1.out);clear hb hb0;simp only [nodeV,TV.val,TV.cells])
   |(go_at_call 194;refine (HT6.out _ (S5.at_.later (by go_grown))).mono ?_;intro e w6 hp;have hA0:=hp.2.2;replace hp:=PN.from S5.out (by go_grown) hp;obtain ⟨rfl,hP,hA⟩:=hp;have S6:=hid (S5.moved hA hP);have N6:=hid (N5.moved hA0);have n6c5:=N6.box.cell 5 (.slice (some ⟨w4.heap.size,0,none⟩) 1 1) rfl;have n6cf:=N6.box.fz;have n6cl:=N6.box.lt;clear hP hA hA0))
  obtain ⟨ys,Fs,hk6,hf6,ho6⟩:=N6.rows;have HK6:=hid hk6;have HF6:=hid hf6;have HO6:=hid ho6;clear hk6 hf6 ho6
  go_region_law (first
   |(refine step_append_lo _ (by rfl) _ _ 26 (by rfl) 28 m0 _ 6 104 Tryz.underlying26 hm0 hmz0 hmz1 hmz2 (by rfl) (by decide) (w5.heap.size+1) (by have:=N7.box.lt;have:=T7.hi_;have:=T7.le;simp;omega) (.slice (some ⟨w4.heap.size,0,none⟩) 1 1) l1.length _ (by rfl) (HK7.row.alloc _) N7.room ⟨w7.heap.size,0,none⟩ 1 1 y7.cells.toList (by rfl) (by rfl) (World.news_of_block (heap_new _ _)) (tv_one y7) (by decide) (by have:=HLen.out;unfold maxLen;omega) (by have:=HLen.out;omega) ?_;intro g8 cap w8 hown hgrow hat hlt hgl hbl;have NBA:=((N7.box.later ((qb _ _).alloc (qa _) (.cells y7.cells 28))).kept (hbl.block _ (by omega)) hbl.size);have nac5:=NBA.cell 5 (.slice (some ⟨w4.heap.size,0,none⟩) 1 1) rfl;have naf:=NBA.fz;have nal:=NBA.lt)
   |(go_simp;go_at_call 195;refine (HC7.out _ (S6.at_.later (by go_grown))).mono ?_;intro e w7 hp;replace hp:=PT.from S6.out (by go_grown) hp;obtain ⟨y7,G7,rfl,hO,hG,hP,hA⟩:=hp;have S7:=hid (S6.moved hA hP);have HSz7:=hid hA.size;have T7:=hid (Tm.new S6.out hO hG (by simp) hA.size (by simp));have N7:=hid (N6.moved hA);have HK7:=hid (HK6.away keeper_own hA (fun b hb'=>⟨(From.lt0 HF6.out b hb').2,by have:=(From.lt0 HF6.out b hb').1;have:=N6.pb;omega⟩));have n7c5:=N7.box.cell 5 (.slice (some ⟨w4.heap.size,0,none⟩) 1 1) rfl;have n7cf:=N7.box.fz;have n7cl:=N7.box.lt;clear hO hG hP hA;simp only [TV.val,TV.cells]))
  all_goals
   have HS9:=hid (((S7.later ((qb _ _).alloc (qa _) _)).under ((S5.lo (qa _)).mono (Nat.le_succ _)) hbl).store (S5.lo (qa _)) 5 (.slice (some ⟨g8,0,none⟩) (l1.length+1) cap));have HN9:=hid (N7.step HK7.out HF6.out HO6.out T7.out (by have:=N6.box.lt;omega) hown hgrow hat hlt hgl hbl);clear hown hgrow hat hlt hgl hbl NBA nac5 naf nal n7c5 n7cf n7cl n6c5 n6cf n6cl;generalize World.setCell w8 _ _=w9 at HS9 HN9 ⊢;have S9:=HS9;have N9:=HN9;clear HS9 HN9;go_wp2_with (go_at_call 194;refine (HT9.out _ (S9.at_.later (by go_grown))).mono ?_;intro e w9 hp;replace hp:=PN.from S9.out (by go_grown) hp;obtain ⟨rfl,hA⟩:=hp)
   all_goals exact ⟨rfl,by rw [<-HEq.out];exact ⟨rfl,S9.away.next hA⟩⟩
 |ok m9=>
 rw [hr] at HT9 hR0;have HEq:=hid (show R.ok (made 13 (l1++[t7]),m9)=R0 from by rw [HL1.out];exact hR0);have HWo:=hid (show wrap64 (o:Int)=(o:Int) from by have:=HDp.out;unfold Deep at this;unfold wrap64;omega);clear hR0 hr;go_enter Tryz.func241,Tryz.ntmps241
 go_wp2_with (first
  |(go_at_call 122;refine (H2.out _ (S1.at_.later (by go_grown))).mono ?_;rintro e w2 ⟨rfl,hb⟩;have hb0:=hb;have hb:=Start.then S1.out hb (by go_grown);have S2:=hid (S1.later hb);clear hb hb0)
  |(go_at_call 122;refine (H1.out _ (S0.at_.later (by go_grown))).mono ?_;rintro e w1 ⟨rfl,hb⟩;have hb0:=hb;have hb:=Start.then S0.out hb (by go_grown);have S1:=hid (S0.later hb);clear hb hb0)
  |(go_at_call 155;refine (HO.out _ (S2.at_.later (by go_grown))).mono ?_;intro e w3 hp;replace hp:=PO.from S2.out (by go_grown) hp;obtain ⟨rfl,hP,hA⟩:=hp;have S3:=hid (S2.moved hA hP);clear hP hA)
  |(go_at_call 193;refine (HC4.out _ (S3.at_.later (by go_grown))).mono ?_;intro e w4 hp;replace hp:=PT.from S3.out (by go_grown) hp;obtain ⟨y4,G4,rfl,hO,hG,hP,hA⟩:=hp;have S4:=hid (S3.moved hA hP);have T4:=hid (Tm.new S3.out hO hG (by simp) hA.size (by simp));clear hO hG hP hA;simp only [TV.val,TV.cells])
  |(go_at_call 127;refine (made_calls' _ _ _ _ _).mono ?_;rintro e w5 ⟨rfl,hb⟩;have hb0:=hb;have hb:=Start.then S4.out hb (by go_grown);have S5:=hid (S4.later hb);have N5:=hid (Nb.made S4.out T4.out hb0 S3.at_.lt 13 28 HL1.out);clear hb hb0;simp only [nodeV,TV.val,TV.cells])
  |(go_at_call 194;refine (HT6.out _ (S5.at_.later (by go_grown))).mono ?_;intro e w6 hp;have hA0:=hp.2.2;replace hp:=PN.from S5.out (by go_grown) hp;obtain ⟨rfl,hP,hA⟩:=hp;have S6:=hid (S5.moved hA hP);have N6:=hid (N5.moved hA0);have n6c5:=N6.box.cell 5 (.slice (some ⟨w4.heap.size,0,none⟩) 1 1) rfl;have n6cf:=N6.box.fz;have n6cl:=N6.box.lt;clear hP hA hA0))
 obtain ⟨ys,Fs,hk6,hf6,ho6⟩:=N6.rows;have HK6:=hid hk6;have HF6:=hid hf6;have HO6:=hid ho6;clear hk6 hf6 ho6
 go_region_law (first
  |(refine step_append_lo _ (by rfl) _ _ 26 (by rfl) 28 m0 _ 6 104 Tryz.underlying26 hm0 hmz0 hmz1 hmz2 (by rfl) (by decide) (w5.heap.size+1) (by have:=N7.box.lt;have:=T7.hi_;have:=T7.le;simp;omega) (.slice (some ⟨w4.heap.size,0,none⟩) 1 1) l1.length _ (by rfl) (HK7.row.alloc _) N7.room ⟨w7.heap.size,0,none⟩ 1 1 y7.cells.toList (by rfl) (by rfl) (World.news_of_block (heap_new _ _)) (tv_one y7) (by decide) (by have:=HLen.out;unfold maxLen;omega) (by have:=HLen.out;omega) ?_;intro g8 cap w8 hown hgrow hat hlt hgl hbl;have NBA:=((N7.box.later ((qb _ _).alloc (qa _) (.cells y7.cells 28))).kept (hbl.block _ (by omega)) hbl.size);have nac5:=NBA.cell 5 (.slice (some ⟨w4.heap.size,0,none⟩) 1 1) rfl;have naf:=NBA.fz;have nal:=NBA.lt)
  |(go_simp;go_at_call 195;refine (HC7.out _ (S6.at_.later (by go_grown))).mono ?_;intro e w7 hp;replace hp:=PT.from S6.out (by go_grown) hp;obtain ⟨y7,G7,rfl,hO,hG,hP,hA⟩:=hp;have S7:=hid (S6.moved hA hP);have HSz7:=hid hA.size;have T7:=hid (Tm.new S6.out hO hG (by simp) hA.size (by simp));have N7:=hid (N6.moved hA);have HK7:=hid (HK6.away keeper_own hA (fun b hb'=>⟨(From.lt0 HF6.out b hb').2,by have:=(From.lt0 HF6.out b hb').1;have:=N6.pb;omega⟩));have n7c5:=N7.box.cell 5 (.slice (some ⟨w4.heap.size,0,none⟩) 1 1) rfl;have n7cf:=N7.box.fz;have n7cl:=N7.box.lt;clear hO hG hP hA;simp only [TV.val,TV.cells]))
 all_goals
  have HS9:=hid (((S7.later ((qb _ _).alloc (qa _) _)).under ((S5.lo (qa _)).mono (Nat.le_succ _)) hbl).store (S5.lo (qa _)) 5 (.slice (some ⟨g8,0,none⟩) (l1.length+1) cap));have HN9:=hid (N7.step HK7.out HF6.out HO6.out T7.out (by have:=N6.box.lt;omega) hown hgrow hat hlt hgl hbl);clear hown hgrow hat hlt hgl hbl NBA nac5 naf nal n7c5 n7cf n7cl n6c5 n6cf n6cl;generalize World.setCell w8 _ _=w9 at HS9 HN9 ⊢;have S9:=HS9;have N9:=HN9;clear HS9 HN9;go_upto_region 21 with (go_at_call 194;refine (HT9.out _ (S9.at_.later (by go_grown))).mono ?_;intro e w10 hp;have hA0:=hp.2.2;replace hp:=PN.from S9.out (by go_grown) hp;obtain ⟨rfl,hP,hA⟩:=hp;have S10:=hid (S9.moved hA hP);have N10:=hid (N9.moved hA);have p10c3:=S10.at_.c3;have p10cf:=S10.at_.fz;clear hP hA hA0)
  generalize hWn:World.setCell w10 _ _=w11;have hAn:Away s.pb w10.heap.size w10 w11:=hWn▸(Away.refl _ _ _).setCell (q:=⟨s.pb,3,none⟩) (.inl rfl) _;have hPn:=S10.at_.opened o (v:=.int .i64 (wrap64 (o:Int))) (by rw [HWo.out]);rw [hWn] at hPn;have S11:=hid (S10.moved hAn hPn);have N11:=hid (N10.moved hAn);obtain ⟨n11c0,n11c1,n11c2,n11c3,n11c4,n11c5⟩:=N11.box.r6 (.int .i64 13) (.string ⟨#[]⟩) (.int .i64 0) (.slice none 0 0) (.slice none 0 0) (.slice (some ⟨g8,0,none⟩) (l1.length+1) cap) rfl;have n11cf:=N11.box.fz;have n11cl:=N11.box.lt;obtain ⟨c0,c1,c2,c3,c4,c5⟩:=S11.box.rz rfl;have cf:=S11.box.fz;have cl:=S11.box.lt;clear hAn hPn hWn;go_wp2_with fail
  obtain ⟨G,T⟩:=N11.term (by decide) (by have:=HLen.out;simp;omega);refine bodyPost_ret (v:=(nodeV 13 0 ⟨#[]⟩ (some ⟨g8,0,none⟩) (l1.length+1) cap).val) (by simp [results,Tryz.results241,nodeV,TV.val,TV.cells,c0,c1,c2,c3,c4,c5,cf,go_sem]) rfl ?_;rw [<-HEq.out];exact T.ends S11.out S3.box.lt (by simp) _ _ _ _ _ _
end Pz
end Go.Proofs.YtimcmghhbdfjfaaGreatDoor
