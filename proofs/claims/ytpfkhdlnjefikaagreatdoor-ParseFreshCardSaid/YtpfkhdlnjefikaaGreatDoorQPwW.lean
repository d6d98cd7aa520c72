/- Package parse: sentence, if. -/
import Derived.Test.YtpfkhdlnjefikaaGreatDoorQPwV
set_option linter.unusedVariables false
set_option linter.unusedSimpArgs false
namespace Go.Proofs.YtpfkhdlnjefikaaGreatDoor
open Go.RowKit
namespace Pz
structure Aw (s:PS) (a w:World):Prop where
 away:Away s.pb a.heap.size a w
theorem Aw.refl (s:PS) (a:World):Aw s a a:=⟨Away.refl _ _ _⟩
theorem Aw.later {s:PS} {a w w':World} (h:Aw s a w) (hb:Below w.heap.size w w'):Aw s a w':=⟨h.away.then hb⟩
theorem Aw.moved {s:PS} {a w w':World} (h:Aw s a w) (hA:Away s.pb w.heap.size w w'):Aw s a w':=⟨h.away.next hA⟩
theorem Aw.below {s:PS} {a w w':World} (h:Aw s a w) (hb:Below a.heap.size w w'):Aw s a w':=⟨h.away.trans (Away.of_below hb)⟩
theorem Bx.term {s:PS} {w w9 w13:World} {n o rb lo hi:Nat} {t:T} {y yo:TV} {G:List Nat} (A:Aw s w9 w13) (L:Lo s w rb w9.heap.size) (S:Start s w n o zeroT rb w13) (X:Bx s w13 w9.heap.size yo.cells) (V:Tm s [] lo hi w13 t y G) (hlo:w9.heap.size<lo) (w14:World)
 (hw:w14=(((((w13.setCell ⟨w9.heap.size,0,none⟩ (.int .i64 y.kind)).setCell ⟨w9.heap.size,1,none⟩ (.string y.text)).setCell ⟨w9.heap.size,2,none⟩ (.int .i64 y.n)).setCell ⟨w9.heap.size,3,none⟩ (.slice y.sa y.sl y.sc)).setCell ⟨w9.heap.size,4,none⟩ (.slice y.aa y.al y.ac)).setCell ⟨w9.heap.size,5,none⟩ (.slice y.ka y.kl y.kc)):
 Aw s w9 w14/\Start s w n o zeroT rb w14/\Bx s w14 w9.heap.size y.cells/\Tm s [] lo hi w14 t y G:=by
 have hb:=below_six (w:=w13) (b:=w9.heap.size) (Nat.le_refl _) (.int .i64 y.kind) (.string y.text) (.int .i64 y.n) (.slice y.sa y.sl y.sc) (.slice y.aa y.al y.ac) (.slice y.ka y.kl y.kc)
 have hX:=Boxd.six X.box (.int .i64 y.kind) (.string y.text) (.int .i64 y.n) (.slice y.sa y.sl y.sc) (.slice y.aa y.al y.ac) (.slice y.ka y.kl y.kc)
 have hu:w9.heap.size ∉ G:=fun h=>by have:=(From.lt0 V.from_ _ h).1;omega
 have hT:=(((((V.set (q:=⟨w9.heap.size,0,none⟩) hu (.int .i64 y.kind)).set (q:=⟨w9.heap.size,1,none⟩) hu (.string y.text)).set (q:=⟨w9.heap.size,2,none⟩) hu (.int .i64 y.n)).set (q:=⟨w9.heap.size,3,none⟩) hu (.slice y.sa y.sl y.sc)).set (q:=⟨w9.heap.size,4,none⟩) hu (.slice y.aa y.al y.ac)).set (q:=⟨w9.heap.size,5,none⟩) hu (.slice y.ka y.kl y.kc)
 rw [<-hw] at hb hX hT
 exact ⟨A.below hb,S.under L hb,⟨hX,X.n1,X.n2⟩,hT⟩
theorem Tm.empty {s:PS} {w W:World} {n o rb:Nat} {cs:Array Value} (S:Start s w n o cs rb W):Tm s [] W.heap.size W.heap.size W (made 14 []) (nodeV 14 0 ⟨#[]⟩ none 0 0) []:=by
 have hR:=(Rows.nil Own TV.cells 34 6 W).ownR
 have:=own_node (k:=14) (n:=0) (s:=⟨#[]⟩) hR (by omega) (by omega) (by omega) (by omega) (by decide) (by simp) (Nat.le_refl _) (Nat.zero_le _)
 exact ⟨by simpa [made,rowB,Value.ownBlock] using this,⟨by simp,fun b hb=>by cases hb⟩,Nat.le_refl _,by simp,Nat.le_refl _,fun b hb=>by cases hb⟩
set_option maxRecDepth 100000 in
set_option maxHeartbeats 4000000 in
theorem if_step {s:PS} {f g n o:Nat} {w:World} (hnn:CNoun s f) (hbd:CBody s f) (hg:g<=f) (hP:PAt w s n o) (hD:Deep o) (hn:need s.ws n 7<=g+1) (h2:sees s.ws n [105,102,46]=true):
 Calls Tryz.prog 239 #[ptr s] w (PT 65 s [] w o (sentence s.ws s.e (g+1) n o)):=by
 obtain ⟨m0,hm0,hmz0,hmz1,hmz2⟩:=info_parts info_term1
 obtain ⟨R0,hR0⟩:∃ R0,sentence s.ws s.e (g+1) n o=R0:=⟨_,rfl⟩
 rw [hR0]
 rw [sentence,if_pos h2] at hR0
 have H2:=hid (fun W h=>sees_is (o:=o) h2 W h)
 have hlt:=sees_lt h2
 have HOk:=hid hP.ok
 have HO:=hid (fun W (h:PAt W s n o)=>opens_calls s n o W h hlt (by unfold Deep at hD;omega))
 have HNN:=hid hnn
 have HBD:=hid hbd
 have HG:=hid hg
 have HN:=hid hn
 have HLT:=hid hlt
 have HDp:=hid hD
 have S0:=hid (Start.new hP zeroT 34)
 unfold ptr
 clear h2 hlt hP hnn hbd hg hn hD
 have ho:opens s.ws s.e n o=if 512<o+1 then .bad 2 (place s.ws s.e n) else .ok (n+1,o+1):=rfl
 by_cases hd:512<o+1
 ·rw [if_pos hd] at ho
  rw [ho] at HO hR0
  have HEq:=hid hR0
  clear hR0 ho hd
  go_enter Tryz.func239,Tryz.ntmps239
  go_wp2_with (first
   |(go_at_call 143;refine (H2.out _ (S0.out.at_.later (by go_grown))).mono ?_;rintro e w2 ⟨rfl,hb⟩;have hb0:=hb;have hb:=Start.then S0.out hb (by go_grown);have S2:=hid (S0.out.later hb);clear hb hb0)
   |(go_at_call 171;refine (HO.out _ (S2.out.at_.later (by go_grown))).mono ?_;intro e w9 hp;replace hp:=PO.from S2.out (by go_grown) hp;obtain ⟨rfl,hA⟩:=hp))
  all_goals exact ⟨rfl,by rw [<-HEq.out];exact ⟨rfl,S2.out.away.next hA⟩⟩
 rw [if_neg hd] at ho
 rw [ho] at HO hR0
 have HD1:=hid (show Deep (o+1) from by unfold Deep;omega)
 simp only [R.andThen] at hR0
 clear ho hd
 have hs4:=(sound (fun i w h=>(HOk.out.word i w h).1) g).noun (n+1) (o+1) (by have:=HN.out;have:=HLT.out;unfold need at*;omega)
 have HC4:=hid (fun W (h:PAt W s (n+1) (o+1))=>HNN.out g HG.out (n+1) (o+1) W h HD1.out (by have:=HN.out;have:=HLT.out;unfold need at*;omega))
 unfold ptr at HC4
 cases hr:noun s.ws s.e g (n+1) (o+1) with
 |bad c p=>
  rw [hr] at HC4 hR0
  have HEq:=hid hR0
  clear hR0 hr hs4
  go_enter Tryz.func239,Tryz.ntmps239
  go_wp2_with (first
   |(go_at_call 143;refine (H2.out _ (S0.out.at_.later (by go_grown))).mono ?_;rintro e w2 ⟨rfl,hb⟩;have hb0:=hb;have hb:=Start.then S0.out hb (by go_grown);have S2:=hid (S0.out.later hb);clear hb hb0)
   |(go_at_call 171;refine (HO.out _ (S2.out.at_.later (by go_grown))).mono ?_;intro e w3 hp;replace hp:=PO.from S2.out (by go_grown) hp;obtain ⟨rfl,hP,hA⟩:=hp;have S3:=hid (S2.out.moved hA hP);clear hP hA)
   |(go_at_call 203;refine (HC4.out _ (S3.out.at_.later (by go_grown))).mono ?_;intro e w9 hp;replace hp:=PT.from S3.out (by go_grown) hp;obtain ⟨rfl,hA⟩:=hp))
  all_goals exact ⟨rfl,by rw [<-HEq.out];exact ⟨rfl,S3.out.away.next hA⟩⟩
 |ok r4=>
 obtain ⟨t4,m4⟩:=r4
 rw [hr] at HC4 hR0 hs4
 have HM4:=hid (show n+1<m4/\m4<=s.ws.length from hs4)
 simp only [R.andThen] at hR0
 clear hr hs4
 obtain ⟨l1,hl1⟩:∃ l1,l1=[t4]:=⟨_,rfl⟩
 have HL1:=hid hl1
 have HLen:=hid (show l1.length<=1048576 from by rw [hl1];simp)
 clear hl1
 have HT6:=hid (fun W (h:PAt W s m4 (o+1))=>takes_calls s m4 (o+1) [100,111,46] W h)
 cases hr:takes s.ws s.e m4 [100,111,46] with
 |bad c p=>
  rw [hr] at HT6 hR0
  have HEq:=hid hR0
  clear hR0 hr
  go_enter Tryz.func239,Tryz.ntmps239
  go_wp2_with (first
   |(go_at_call 143;refine (H2.out _ (S0.out.at_.later (by go_grown))).mono ?_;rintro e w2 ⟨rfl,hb⟩;have hb0:=hb;have hb:=Start.then S0.out hb (by go_grown);have S2:=hid (S0.out.later hb);clear hb hb0)
   |(go_at_call 171;refine (HO.out _ (S2.out.at_.later (by go_grown))).mono ?_;intro e w3 hp;replace hp:=PO.from S2.out (by go_grown) hp;obtain ⟨rfl,hP,hA⟩:=hp;have S3:=hid (S2.out.moved hA hP);clear hP hA)
   |(go_at_call 203;refine (HC4.out _ (S3.out.at_.later (by go_grown))).mono ?_;intro e w4 hp;replace hp:=PT.from S3.out (by go_grown) hp;obtain ⟨y4,G4,rfl,hO,hG,hP,hA⟩:=hp;have S4:=hid (S3.out.moved hA hP);have T4:=hid (Tm.new S3.out hO hG (by simp) hA.size (by simp));clear hO hG hP hA;simp only [TV.val,TV.cells])
   |(go_at_call 148;refine (made_calls' _ _ _ _ _).mono ?_;rintro e w5 ⟨rfl,hb⟩;have hb0:=hb;have hb:=Start.then S4.out hb (by go_grown);have S5:=hid (S4.out.later hb);have N5:=hid (Nb.made S4.out T4.out hb0 S3.out.at_.lt 12 34 HL1.out);clear hb hb0;simp only [nodeV,TV.val,TV.cells])
   |(go_at_call 204;refine (HT6.out _ (S5.out.at_.later (by go_grown))).mono ?_;intro e w9 hp;replace hp:=PN.from S5.out (by go_grown) hp;obtain ⟨rfl,hA⟩:=hp))
  all_goals exact ⟨rfl,by rw [<-HEq.out];exact ⟨rfl,S5.out.away.next hA⟩⟩
 |ok m6=>
 rw [hr] at HT6 hR0
 have HM6:=hid (show m6=m4+1/\m4<s.ws.length from by
  unfold takes at hr
  cases hse:sees s.ws m4 [100,111,46] with
  |true=>rw [hse,if_pos rfl] at hr;injection hr with hr;exact ⟨hr.symm,sees_lt hse⟩
  |false=>rw [hse] at hr;cases hr)
 simp only [R.andThen] at hR0
 clear hr
 have hs7:=(sound (fun i w h=>(HOk.out.word i w h).1) g).body m6 (o+1) (by have:=HM6.out;omega) (by have:=HN.out;have:=HM4.out;have:=HM6.out;unfold need at*;omega)
 have HC7:=hid (fun W (h:PAt W s m6 (o+1))=>HBD.out g HG.out m6 (o+1) W h HD1.out (by have:=HM6.out;omega) (by have:=HN.out;have:=HM4.out;have:=HM6.out;unfold need at*;omega))
 unfold ptr at HC7
 cases hr:body s.ws s.e g m6 (o+1) with
 |bad c p=>
  rw [hr] at HC7 hR0
  have HEq:=hid hR0
  clear hR0 hr hs7
  go_enter Tryz.func239,Tryz.ntmps239
  go_wp2_with (first
   |(go_at_call 143;refine (H2.out _ (S0.out.at_.later (by go_grown))).mono ?_;rintro e w2 ⟨rfl,hb⟩;have hb0:=hb;have hb:=Start.then S0.out hb (by go_grown);have S2:=hid (S0.out.later hb);clear hb hb0)
   |(go_at_call 171;refine (HO.out _ (S2.out.at_.later (by go_grown))).mono ?_;intro e w3 hp;replace hp:=PO.from S2.out (by go_grown) hp;obtain ⟨rfl,hP,hA⟩:=hp;have S3:=hid (S2.out.moved hA hP);clear hP hA)
   |(go_at_call 203;refine (HC4.out _ (S3.out.at_.later (by go_grown))).mono ?_;intro e w4 hp;replace hp:=PT.from S3.out (by go_grown) hp;obtain ⟨y4,G4,rfl,hO,hG,hP,hA⟩:=hp;have S4:=hid (S3.out.moved hA hP);have T4:=hid (Tm.new S3.out hO hG (by simp) hA.size (by simp));clear hO hG hP hA;simp only [TV.val,TV.cells])
   |(go_at_call 148;refine (made_calls' _ _ _ _ _).mono ?_;rintro e w5 ⟨rfl,hb⟩;have hb0:=hb;have hb:=Start.then S4.out hb (by go_grown);have S5:=hid (S4.out.later hb);have N5:=hid (Nb.made S4.out T4.out hb0 S3.out.at_.lt 12 34 HL1.out);clear hb hb0;simp only [nodeV,TV.val,TV.cells])
   |(go_at_call 204;refine (HT6.out _ (S5.out.at_.later (by go_grown))).mono ?_;intro e w6 hp;have hA0:=hp.2.2;replace hp:=PN.from S5.out (by go_grown) hp;obtain ⟨rfl,hP,hA⟩:=hp;have S6:=hid (S5.out.moved hA hP);have N6:=hid (N5.out.moved hA0);have n6c5:=N6.out.box.cell 5 (.slice (some ⟨w4.heap.size,0,none⟩) 1 1) rfl;have n6cf:=N6.out.box.fz;have n6cl:=N6.out.box.lt;clear hP hA hA0))
  refine wp_region_held_drew (S:=fun w'=>w'.cell? ⟨w5.heap.size,5,none⟩=some (.slice (some ⟨w4.heap.size,0,none⟩) 1 1)) (by kernel_rfl) (by exact n6c5) (fun hHeld=>?_)
  refine wpAnyH_take (i:=0) (v:=?_) rfl (by kernel_rfl) (by kernel_rfl) (by kernel_rfl) (fun _ _ _ h=>h) (Or.inl ⟨by rfl,?_⟩) (by assumption) ?_
  rotate_left
  ·intro w hSw
   (try dsimp only at hSw)
   go_simp
   try with_reducible rfl
  try simp only [Act.put,List.setIfInBounds_toArray,List.set_cons_zero,List.set_cons_succ]
  refine wpAnyH_take (i:=1) (v:=?_) rfl (by kernel_rfl) (by kernel_rfl) (by kernel_rfl) (fun _ _ _ h=>h) (Or.inl ⟨by rfl,?_⟩) (by assumption) ?_
  rotate_left
  ·intro w hSw
   (try dsimp only at hSw)
   go_simp
   try with_reducible rfl
  try simp only [Act.put,List.setIfInBounds_toArray,List.set_cons_zero,List.set_cons_succ]
  refine wpAnyH_take (i:=2) (v:=?_) rfl (by kernel_rfl) (by kernel_rfl) (by kernel_rfl) (fun _ _ _ h=>h) (Or.inl ⟨by rfl,?_⟩) (by assumption) ?_
  rotate_left
  ·intro w hSw
   (try dsimp only at hSw)
   go_simp
   try with_reducible rfl
  try simp only [Act.put,List.setIfInBounds_toArray,List.set_cons_zero,List.set_cons_succ]
  refine wpAnyH_ready (rs:=[3]) (by kernel_rfl) (by simp) ?_
  refine AllReadyH.cons rfl (fun K hK=>?_) AllReadyH.nil
  go_simp
  go_wp2_with (go_at_call 205;refine (HC7.out _ (S6.out.at_.later (by go_grown))).mono ?_;intro e w9 hp;replace hp:=PT.from S6.out (by go_grown) hp;obtain ⟨rfl,hA⟩:=hp;exact ⟨rfl,by rw [<-HEq.out];exact ⟨rfl,S6.out.away.next hA⟩⟩)
 |ok r7=>
 obtain ⟨t7,m7⟩:=r7
 rw [hr] at HC7 hR0 hs7
 have HM7:=hid (show m6<=m7/\m7<=s.ws.length from hs7)
 simp only [R.andThen] at hR0
 clear hr hs7
 cases h10:sees s.ws m7 [101,108,115,101,46] with
 |false=>
  have H10:=hid (fun W h=>sees_is (o:=o+1) h10 W h)
  rw [if_neg (by rw [h10];simp)] at hR0
  clear h10
  have HT12:=hid (fun W (h:PAt W s m7 (o+1))=>takes_calls s m7 (o+1) [101,110,100,46] W h)
  cases hr:takes s.ws s.e m7 [101,110,100,46] with
  |bad c p=>
   rw [hr] at HT12 hR0
   have HEq:=hid hR0
   clear hR0 hr
   go_enter Tryz.func239,Tryz.ntmps239
   go_wp2_with (first
    |(go_at_call 143;refine (H2.out _ (S0.out.at_.later (by go_grown))).mono ?_;rintro e w2 ⟨rfl,hb⟩;have hb0:=hb;have hb:=Start.then S0.out hb (by go_grown);have S2:=hid (S0.out.later hb);clear hb hb0)
    |(go_at_call 171;refine (HO.out _ (S2.out.at_.later (by go_grown))).mono ?_;intro e w3 hp;replace hp:=PO.from S2.out (by go_grown) hp;obtain ⟨rfl,hP,hA⟩:=hp;have S3:=hid (S2.out.moved hA hP);clear hP hA)
    |(go_at_call 203;refine (HC4.out _ (S3.out.at_.later (by go_grown))).mono ?_;intro e w4 hp;replace hp:=PT.from S3.out (by go_grown) hp;obtain ⟨y4,G4,rfl,hO,hG,hP,hA⟩:=hp;have S4:=hid (S3.out.moved hA hP);have T4:=hid (Tm.new S3.out hO hG (by simp) hA.size (by simp));clear hO hG hP hA;simp only [TV.val,TV.cells])
    |(go_at_call 148;refine (made_calls' _ _ _ _ _).mono ?_;rintro e w5 ⟨rfl,hb⟩;have hb0:=hb;have hb:=Start.then S4.out hb (by go_grown);have S5:=hid (S4.out.later hb);have N5:=hid (Nb.made S4.out T4.out hb0 S3.out.at_.lt 12 34 HL1.out);clear hb hb0;simp only [nodeV,TV.val,TV.cells])
    |(go_at_call 204;refine (HT6.out _ (S5.out.at_.later (by go_grown))).mono ?_;intro e w6 hp;have hA0:=hp.2.2;replace hp:=PN.from S5.out (by go_grown) hp;obtain ⟨rfl,hP,hA⟩:=hp;have S6:=hid (S5.out.moved hA hP);have N6:=hid (N5.out.moved hA0);have n6c5:=N6.out.box.cell 5 (.slice (some ⟨w4.heap.size,0,none⟩) 1 1) rfl;have n6cf:=N6.out.box.fz;have n6cl:=N6.out.box.lt;clear hP hA hA0))
   obtain ⟨ys,Fs,hk6,hf6,ho6⟩:=N6.out.rows
   have HK6:=hid hk6
   have HF6:=hid hf6
   have HO6:=hid ho6
   clear hk6 hf6 ho6
   go_region_law (first
    |(refine step_append_lo _ (by rfl) _ _ 32 (by rfl) 34 m0 _ 6 104 Tryz.underlying32 hm0 hmz0 hmz1 hmz2 (by rfl) (by decide) (w5.heap.size+1) (by have:=N7.out.box.lt;have:=T7.out.hi_;have:=T7.out.le;simp;omega) (.slice (some ⟨w4.heap.size,0,none⟩) 1 1) l1.length _ (by rfl) (HK7.out.row.alloc _) N7.out.room ⟨w7.heap.size,0,none⟩ 1 1 y7.cells.toList (by rfl) (by rfl) (World.news_of_block (heap_new _ _)) (tv_one y7) (by decide) (by have:=HLen.out;unfold maxLen;omega) (by have:=HLen.out;omega) ?_;intro g8 cap w8 hown hgrow hat hlt hgl hbl;have NBA:=((N7.out.box.later ((Below.refl _ _).alloc (Nat.le_refl _) (.cells y7.cells 34))).kept (hbl.block _ (by omega)) hbl.size);have nac5:=NBA.cell 5 (.slice (some ⟨w4.heap.size,0,none⟩) 1 1) rfl;have naf:=NBA.fz;have nal:=NBA.lt)
    |(go_simp;go_at_call 205;refine (HC7.out _ (S6.out.at_.later (by go_grown))).mono ?_;intro e w7 hp;replace hp:=PT.from S6.out (by go_grown) hp;obtain ⟨y7,G7,rfl,hO,hG,hP,hA⟩:=hp;have S7:=hid (S6.out.moved hA hP);have HSz7:=hid hA.size;have T7:=hid (Tm.new S6.out hO hG (by simp) hA.size (by simp));have N7:=hid (N6.out.moved hA);have HK7:=hid (HK6.out.away keeper_own hA (fun b hb'=>⟨(From.lt0 HF6.out b hb').2,by have:=(From.lt0 HF6.out b hb').1;have:=N6.out.pb;omega⟩));have n7c5:=N7.out.box.cell 5 (.slice (some ⟨w4.heap.size,0,none⟩) 1 1) rfl;have n7cf:=N7.out.box.fz;have n7cl:=N7.out.box.lt;clear hO hG hP hA;simp only [TV.val,TV.cells]))
   all_goals
    have HS9:=hid (((S7.out.later ((Below.refl _ _).alloc (Nat.le_refl _) _)).under ((S5.out.lo (Nat.le_refl _)).mono (Nat.le_succ _)) hbl).store (S5.out.lo (Nat.le_refl _)) 5 (.slice (some ⟨g8,0,none⟩) (l1.length+1) cap))
    have HN9:=hid (N7.out.step HK7.out HF6.out HO6.out T7.out (by have:=N6.out.box.lt;omega) hown hgrow hat hlt hgl hbl)
    clear hown hgrow hat hlt hgl hbl NBA nac5 naf nal n7c5 n7cf n7cl n6c5 n6cf n6cl
    generalize World.setCell w8 _ _=w9 at HS9 HN9 ⊢
    have S9:=HS9;have N9:=HN9
    clear HS9 HN9
    obtain ⟨l2,hl2⟩:∃ l2,l2=l1++[t7]:=⟨_,rfl⟩
    rw [<-hl2] at N9
    have HL2:=hid hl2
    have HLn2:=hid (show l2.length<=1048577 from by rw [hl2];have:=HLen.out;simp;omega)
    clear hl2
    go_upto_region 7 with fail
    obtain ⟨yo,hyo⟩:∃ yo:TV,yo=nodeV 14 0 ⟨#[]⟩ none 0 0:=⟨_,rfl⟩
    generalize hWa:World.alloc w9 _=w10
    have hba:Below w9.heap.size w9 w10:=hWa▸(Below.refl _ _).alloc (Nat.le_refl _) _
    have X10:=hid (show Bx s w10 w9.heap.size yo.cells from by rw [hyo,<-hWa];exact Bx.new S9.out _ _)
    have S10:=hid (S9.out.later hba)
    have N10:=hid (N9.out.later hba)
    have HYO:=hid hyo
    have A10:=hid ((Aw.refl s w9).later hba)
    clear hba hWa hyo
    go_wp2_with (first
     |(go_at_call 143;refine (H10.out _ (S10.out.at_.later (by go_grown))).mono ?_;rintro e w11 ⟨rfl,hb⟩;have hb0:=hb;have hb:=Start.then S10.out hb (by go_grown);have S11:=hid (S10.out.later hb);have N11:=hid (N10.out.later hb);have X11:=hid (X10.out.later hb);clear hb hb0)
     |(go_at_call 204;refine (HT12.out _ (S11.out.at_.later (by go_grown))).mono ?_;intro e w9 hp;replace hp:=PN.from S11.out (by go_grown) hp;obtain ⟨rfl,hA⟩:=hp))
    all_goals exact ⟨rfl,by rw [<-HEq.out];exact ⟨rfl,S11.out.away.next hA⟩⟩
  |ok m12=>
   rw [hr] at HT12 hR0
   have HEq:=hid (show R.ok (made 12 ((l1++[t7])++[made 14 []]),m12)=R0 from by rw [HL1.out];exact hR0)
   have HWo:=hid (show wrap64 (o:Int)=(o:Int) from by have:=HDp.out;unfold Deep at this;unfold wrap64;omega)
   clear hR0 hr
   go_enter Tryz.func239,Tryz.ntmps239
   go_wp2_with (first
    |(go_at_call 143;refine (H2.out _ (S0.out.at_.later (by go_grown))).mono ?_;rintro e w2 ⟨rfl,hb⟩;have hb0:=hb;have hb:=Start.then S0.out hb (by go_grown);have S2:=hid (S0.out.later hb);clear hb hb0)
    |(go_at_call 171;refine (HO.out _ (S2.out.at_.later (by go_grown))).mono ?_;intro e w3 hp;replace hp:=PO.from S2.out (by go_grown) hp;obtain ⟨rfl,hP,hA⟩:=hp;have S3:=hid (S2.out.moved hA hP);clear hP hA)
    |(go_at_call 203;refine (HC4.out _ (S3.out.at_.later (by go_grown))).mono ?_;intro e w4 hp;replace hp:=PT.from S3.out (by go_grown) hp;obtain ⟨y4,G4,rfl,hO,hG,hP,hA⟩:=hp;have S4:=hid (S3.out.moved hA hP);have T4:=hid (Tm.new S3.out hO hG (by simp) hA.size (by simp));clear hO hG hP hA;simp only [TV.val,TV.cells])
    |(go_at_call 148;refine (made_calls' _ _ _ _ _).mono ?_;rintro e w5 ⟨rfl,hb⟩;have hb0:=hb;have hb:=Start.then S4.out hb (by go_grown);have S5:=hid (S4.out.later hb);have N5:=hid (Nb.made S4.out T4.out hb0 S3.out.at_.lt 12 34 HL1.out);clear hb hb0;simp only [nodeV,TV.val,TV.cells])
    |(go_at_call 204;refine (HT6.out _ (S5.out.at_.later (by go_grown))).mono ?_;intro e w6 hp;have hA0:=hp.2.2;replace hp:=PN.from S5.out (by go_grown) hp;obtain ⟨rfl,hP,hA⟩:=hp;have S6:=hid (S5.out.moved hA hP);have N6:=hid (N5.out.moved hA0);have n6c5:=N6.out.box.cell 5 (.slice (some ⟨w4.heap.size,0,none⟩) 1 1) rfl;have n6cf:=N6.out.box.fz;have n6cl:=N6.out.box.lt;clear hP hA hA0))
   obtain ⟨ys,Fs,hk6,hf6,ho6⟩:=N6.out.rows
   have HK6:=hid hk6
   have HF6:=hid hf6
   have HO6:=hid ho6
   clear hk6 hf6 ho6
   go_region_law (first
    |(refine step_append_lo _ (by rfl) _ _ 32 (by rfl) 34 m0 _ 6 104 Tryz.underlying32 hm0 hmz0 hmz1 hmz2 (by rfl) (by decide) (w5.heap.size+1) (by have:=N7.out.box.lt;have:=T7.out.hi_;have:=T7.out.le;simp;omega) (.slice (some ⟨w4.heap.size,0,none⟩) 1 1) l1.length _ (by rfl) (HK7.out.row.alloc _) N7.out.room ⟨w7.heap.size,0,none⟩ 1 1 y7.cells.toList (by rfl) (by rfl) (World.news_of_block (heap_new _ _)) (tv_one y7) (by decide) (by have:=HLen.out;unfold maxLen;omega) (by have:=HLen.out;omega) ?_;intro g8 cap w8 hown hgrow hat hlt hgl hbl;have NBA:=((N7.out.box.later ((Below.refl _ _).alloc (Nat.le_refl _) (.cells y7.cells 34))).kept (hbl.block _ (by omega)) hbl.size);have nac5:=NBA.cell 5 (.slice (some ⟨w4.heap.size,0,none⟩) 1 1) rfl;have naf:=NBA.fz;have nal:=NBA.lt)
    |(go_simp;go_at_call 205;refine (HC7.out _ (S6.out.at_.later (by go_grown))).mono ?_;intro e w7 hp;replace hp:=PT.from S6.out (by go_grown) hp;obtain ⟨y7,G7,rfl,hO,hG,hP,hA⟩:=hp;have S7:=hid (S6.out.moved hA hP);have HSz7:=hid hA.size;have T7:=hid (Tm.new S6.out hO hG (by simp) hA.size (by simp));have N7:=hid (N6.out.moved hA);have HK7:=hid (HK6.out.away keeper_own hA (fun b hb'=>⟨(From.lt0 HF6.out b hb').2,by have:=(From.lt0 HF6.out b hb').1;have:=N6.out.pb;omega⟩));have n7c5:=N7.out.box.cell 5 (.slice (some ⟨w4.heap.size,0,none⟩) 1 1) rfl;have n7cf:=N7.out.box.fz;have n7cl:=N7.out.box.lt;clear hO hG hP hA;simp only [TV.val,TV.cells]))
   all_goals
    have HS9:=hid (((S7.out.later ((Below.refl _ _).alloc (Nat.le_refl _) _)).under ((S5.out.lo (Nat.le_refl _)).mono (Nat.le_succ _)) hbl).store (S5.out.lo (Nat.le_refl _)) 5 (.slice (some ⟨g8,0,none⟩) (l1.length+1) cap))
    have HN9:=hid (N7.out.step HK7.out HF6.out HO6.out T7.out (by have:=N6.out.box.lt;omega) hown hgrow hat hlt hgl hbl)
    clear hown hgrow hat hlt hgl hbl NBA nac5 naf nal n7c5 n7cf n7cl n6c5 n6cf n6cl
    generalize World.setCell w8 _ _=w9 at HS9 HN9 ⊢
    have S9:=HS9;have N9:=HN9
    clear HS9 HN9
    obtain ⟨l2,hl2⟩:∃ l2,l2=l1++[t7]:=⟨_,rfl⟩
    rw [<-hl2] at N9
    have HL2:=hid hl2
    have HLn2:=hid (show l2.length<=1048577 from by rw [hl2];have:=HLen.out;simp;omega)
    clear hl2
    go_upto_region 7 with fail
    obtain ⟨yo,hyo⟩:∃ yo:TV,yo=nodeV 14 0 ⟨#[]⟩ none 0 0:=⟨_,rfl⟩
    generalize hWa:World.alloc w9 _=w10
    have hba:Below w9.heap.size w9 w10:=hWa▸(Below.refl _ _).alloc (Nat.le_refl _) _
    have X10:=hid (show Bx s w10 w9.heap.size yo.cells from by rw [hyo,<-hWa];exact Bx.new S9.out _ _)
    have S10:=hid (S9.out.later hba)
    have N10:=hid (N9.out.later hba)
    have HYO:=hid hyo
    have A10:=hid ((Aw.refl s w9).later hba)
    clear hba hWa hyo
    go_upto_region 12 with (first
     |(go_at_call 143;refine (H10.out _ (S10.out.at_.later (by go_grown))).mono ?_;rintro e w11 ⟨rfl,hb⟩;have hb0:=hb;have hb:=Start.then S10.out hb (by go_grown);have S11:=hid (S10.out.later hb);have N11:=hid (N10.out.later hb);have X11:=hid (X10.out.later hb);clear hb hb0)
     |(go_at_call 204;refine (HT12.out _ (S11.out.at_.later (by go_grown))).mono ?_;intro e w12 hp;have hA0:=hp.2.2;replace hp:=PN.from S11.out (by go_grown) hp;obtain ⟨rfl,hP,hA⟩:=hp;have S12:=hid (S11.out.moved hA hP);have N12:=hid (N11.out.moved hA);have X12:=hid (X11.out.moved hA);have p12c3:=S12.out.at_.c3;have p12cf:=S12.out.at_.fz;clear hP hA hA0))
    generalize hWn:World.setCell w12 _ _=w13
    have hAn:Away s.pb w12.heap.size w12 w13:=hWn▸(Away.refl _ _ _).setCell (q:=⟨s.pb,3,none⟩) (.inl rfl) _
    have hPn:=S12.out.at_.opened o (v:=.int .i64 (wrap64 (o:Int))) (by rw [HWo.out])
    rw [hWn] at hPn
    have S13:=hid (S12.out.moved hAn hPn)
    have N13:=hid (N12.out.moved hAn);obtain ⟨n13c0,n13c1,n13c2,n13c3,n13c4,n13c5⟩:=N13.out.box.r6 (.int .i64 12) (.string ⟨#[]⟩) (.int .i64 0) (.slice none 0 0) (.slice none 0 0) (.slice (some ⟨g8,0,none⟩) (l1.length+1) cap) rfl;have n13cf:=N13.out.box.fz;have n13cl:=N13.out.box.lt;have X13:=hid (X12.out.moved hAn);obtain ⟨x13c0,x13c1,x13c2,x13c3,x13c4,x13c5⟩:=X13.out.box.rt yo rfl;have x13cf:=X13.out.box.fz;have x13cl:=X13.out.box.lt
    clear hAn hPn hWn
    have T13:=hid (show Tm s [] w13.heap.size w13.heap.size w13 (made 14 []) yo [] from by rw [HYO.out];exact Tm.empty S13.out)
    obtain ⟨ys2,Fs2,hk6,hf6,ho6⟩:=N13.out.rows
    have HK13:=hid hk6
    have HF13:=hid hf6
    have HO13:=hid ho6
    clear hk6 hf6 ho6
    go_upto_region 13 with (at_builtin;refine wpList_append_lo _ rfl _ _ 32 rfl 34 m0 _ 6 104 Tryz.underlying32 hm0 hmz0 hmz1 hmz2 rfl (by decide) (w5.heap.size+1) (by have:=N13.out.box.lt;simp;omega) (.slice (some ⟨g8,0,none⟩) (l1.length+1) cap) l2.length _ rfl (HK13.out.row.alloc _) N13.out.room ⟨w13.heap.size,0,none⟩ 1 1 yo.cells.toList rfl (by simp [TV.cells]) (World.news_of_block (heap_new _ _)) (tv_one yo) (by decide) (by have:=HLn2.out;unfold maxLen;omega) (by have:=HLn2.out;omega) ?_;intro g9 cap9 w14 hown hgrow hat hlt hgl hbl;have S14:=hid ((S13.out.later ((Below.refl _ _).alloc (Nat.le_refl _) (.cells yo.cells 34))).under ((S5.out.lo (Nat.le_refl _)).mono (Nat.le_succ _)) hbl);have NB:=(N13.out.box.later ((Below.refl _ _).alloc (Nat.le_refl _) (.cells yo.cells 34))).kept (hbl.block _ (by omega)) hbl.size;have n14c5:=NB.cell 5 (.slice (some ⟨g8,0,none⟩) (l1.length+1) cap) rfl;have n14cf:=NB.fz;have n14cl:=NB.lt)
    have N15:=hid (N13.out.step HK13.out HF13.out HO13.out T13.out (by have:=T13.out.hi_;have:=N13.out.box.lt;omega) hown hgrow hat hlt hgl hbl)
    have S15:=hid (S14.out.store (S5.out.lo (Nat.le_refl _)) 5 (.slice (some ⟨g9,0,none⟩) (l2.length+1) cap9))
    clear hown hgrow hat hlt hgl hbl NB n14c5 n14cf n14cl
    generalize World.setCell w14 _ _=w15 at N15 S15 ⊢
    obtain ⟨n15c0,n15c1,n15c2,n15c3,n15c4,n15c5⟩:=N15.out.box.r6 (.int .i64 12) (.string ⟨#[]⟩) (.int .i64 0) (.slice none 0 0) (.slice none 0 0) (.slice (some ⟨g9,0,none⟩) (l2.length+1) cap9) rfl;have n15cf:=N15.out.box.fz;have n15cl:=N15.out.box.lt
    obtain ⟨c0,c1,c2,c3,c4,c5⟩:=S15.out.box.rz rfl;have cf:=S15.out.box.fz;have cl:=S15.out.box.lt
    go_wp2_with fail
    obtain ⟨G,T⟩:=N15.out.term (by decide) (by have:=HLn2.out;simp;omega)
    refine bodyPost_ret (v:=(nodeV 12 0 ⟨#[]⟩ (some ⟨g9,0,none⟩) (l2.length+1) cap9).val) (by simp [results,Tryz.results239,nodeV,TV.val,TV.cells,c0,c1,c2,c3,c4,c5,cf,go_sem]) rfl ?_
    rw [<-HEq.out,<-HL2.out]
    exact T.ends S15.out S3.out.box.lt (by simp) _ _ _ _ _ _
 |true=>
  have H10:=hid (fun W h=>sees_is (o:=o+1) h10 W h)
  have hlt7:=sees_lt h10
  rw [if_pos h10] at hR0
  have HW7:=hid (show wrap64 ((m7:Int)+1)=((m7+1:Nat):Int) from wrap_succ (by have:=HOk.out.len;omega))
  have hs13:=(sound (fun i w h=>(HOk.out.word i w h).1) g).body (m7+1) (o+1) (by omega) (by have:=HN.out;have:=HM4.out;have:=HM6.out;have:=HM7.out;unfold need at*;omega)
  have HC13:=hid (fun W (h:PAt W s (m7+1) (o+1))=>HBD.out g HG.out (m7+1) (o+1) W h HD1.out (by omega) (by have:=HN.out;have:=HM4.out;have:=HM6.out;have:=HM7.out;unfold need at*;omega))
  unfold ptr at HC13
  clear h10 hlt7
  cases hr:body s.ws s.e g (m7+1) (o+1) with
  |bad c p=>
   rw [hr] at HC13 hR0
   have HEq:=hid hR0
   clear hR0 hr hs13
   go_enter Tryz.func239,Tryz.ntmps239
   go_wp2_with (first
    |(go_at_call 143;refine (H2.out _ (S0.out.at_.later (by go_grown))).mono ?_;rintro e w2 ⟨rfl,hb⟩;have hb0:=hb;have hb:=Start.then S0.out hb (by go_grown);have S2:=hid (S0.out.later hb);clear hb hb0)
    |(go_at_call 171;refine (HO.out _ (S2.out.at_.later (by go_grown))).mono ?_;intro e w3 hp;replace hp:=PO.from S2.out (by go_grown) hp;obtain ⟨rfl,hP,hA⟩:=hp;have S3:=hid (S2.out.moved hA hP);clear hP hA)
    |(go_at_call 203;refine (HC4.out _ (S3.out.at_.later (by go_grown))).mono ?_;intro e w4 hp;replace hp:=PT.from S3.out (by go_grown) hp;obtain ⟨y4,G4,rfl,hO,hG,hP,hA⟩:=hp;have S4:=hid (S3.out.moved hA hP);have T4:=hid (Tm.new S3.out hO hG (by simp) hA.size (by simp));clear hO hG hP hA;simp only [TV.val,TV.cells])
    |(go_at_call 148;refine (made_calls' _ _ _ _ _).mono ?_;rintro e w5 ⟨rfl,hb⟩;have hb0:=hb;have hb:=Start.then S4.out hb (by go_grown);have S5:=hid (S4.out.later hb);have N5:=hid (Nb.made S4.out T4.out hb0 S3.out.at_.lt 12 34 HL1.out);clear hb hb0;simp only [nodeV,TV.val,TV.cells])
    |(go_at_call 204;refine (HT6.out _ (S5.out.at_.later (by go_grown))).mono ?_;intro e w6 hp;have hA0:=hp.2.2;replace hp:=PN.from S5.out (by go_grown) hp;obtain ⟨rfl,hP,hA⟩:=hp;have S6:=hid (S5.out.moved hA hP);have N6:=hid (N5.out.moved hA0);have n6c5:=N6.out.box.cell 5 (.slice (some ⟨w4.heap.size,0,none⟩) 1 1) rfl;have n6cf:=N6.out.box.fz;have n6cl:=N6.out.box.lt;clear hP hA hA0))
   obtain ⟨ys,Fs,hk6,hf6,ho6⟩:=N6.out.rows
   have HK6:=hid hk6
   have HF6:=hid hf6
   have HO6:=hid ho6
   clear hk6 hf6 ho6
   go_region_law (first
    |(refine step_append_lo _ (by rfl) _ _ 32 (by rfl) 34 m0 _ 6 104 Tryz.underlying32 hm0 hmz0 hmz1 hmz2 (by rfl) (by decide) (w5.heap.size+1) (by have:=N7.out.box.lt;have:=T7.out.hi_;have:=T7.out.le;simp;omega) (.slice (some ⟨w4.heap.size,0,none⟩) 1 1) l1.length _ (by rfl) (HK7.out.row.alloc _) N7.out.room ⟨w7.heap.size,0,none⟩ 1 1 y7.cells.toList (by rfl) (by rfl) (World.news_of_block (heap_new _ _)) (tv_one y7) (by decide) (by have:=HLen.out;unfold maxLen;omega) (by have:=HLen.out;omega) ?_;intro g8 cap w8 hown hgrow hat hlt hgl hbl;have NBA:=((N7.out.box.later ((Below.refl _ _).alloc (Nat.le_refl _) (.cells y7.cells 34))).kept (hbl.block _ (by omega)) hbl.size);have nac5:=NBA.cell 5 (.slice (some ⟨w4.heap.size,0,none⟩) 1 1) rfl;have naf:=NBA.fz;have nal:=NBA.lt)
    |(go_simp;go_at_call 205;refine (HC7.out _ (S6.out.at_.later (by go_grown))).mono ?_;intro e w7 hp;replace hp:=PT.from S6.out (by go_grown) hp;obtain ⟨y7,G7,rfl,hO,hG,hP,hA⟩:=hp;have S7:=hid (S6.out.moved hA hP);have HSz7:=hid hA.size;have T7:=hid (Tm.new S6.out hO hG (by simp) hA.size (by simp));have N7:=hid (N6.out.moved hA);have HK7:=hid (HK6.out.away keeper_own hA (fun b hb'=>⟨(From.lt0 HF6.out b hb').2,by have:=(From.lt0 HF6.out b hb').1;have:=N6.out.pb;omega⟩));have n7c5:=N7.out.box.cell 5 (.slice (some ⟨w4.heap.size,0,none⟩) 1 1) rfl;have n7cf:=N7.out.box.fz;have n7cl:=N7.out.box.lt;clear hO hG hP hA;simp only [TV.val,TV.cells]))
   all_goals
    have HS9:=hid (((S7.out.later ((Below.refl _ _).alloc (Nat.le_refl _) _)).under ((S5.out.lo (Nat.le_refl _)).mono (Nat.le_succ _)) hbl).store (S5.out.lo (Nat.le_refl _)) 5 (.slice (some ⟨g8,0,none⟩) (l1.length+1) cap))
    have HN9:=hid (N7.out.step HK7.out HF6.out HO6.out T7.out (by have:=N6.out.box.lt;omega) hown hgrow hat hlt hgl hbl)
    clear hown hgrow hat hlt hgl hbl NBA nac5 naf nal n7c5 n7cf n7cl n6c5 n6cf n6cl
    generalize World.setCell w8 _ _=w9 at HS9 HN9 ⊢
    have S9:=HS9;have N9:=HN9
    clear HS9 HN9
    obtain ⟨l2,hl2⟩:∃ l2,l2=l1++[t7]:=⟨_,rfl⟩
    rw [<-hl2] at N9
    have HL2:=hid hl2
    have HLn2:=hid (show l2.length<=1048577 from by rw [hl2];have:=HLen.out;simp;omega)
    clear hl2
    go_upto_region 7 with fail
    obtain ⟨yo,hyo⟩:∃ yo:TV,yo=nodeV 14 0 ⟨#[]⟩ none 0 0:=⟨_,rfl⟩
    generalize hWa:World.alloc w9 _=w10
    have hba:Below w9.heap.size w9 w10:=hWa▸(Below.refl _ _).alloc (Nat.le_refl _) _
    have X10:=hid (show Bx s w10 w9.heap.size yo.cells from by rw [hyo,<-hWa];exact Bx.new S9.out _ _)
    have S10:=hid (S9.out.later hba)
    have N10:=hid (N9.out.later hba)
    have HYO:=hid hyo
    have A10:=hid ((Aw.refl s w9).later hba)
    clear hba hWa hyo
    go_upto_region 9 with (first
     |(go_at_call 143;refine (H10.out _ (S10.out.at_.later (by go_grown))).mono ?_;rintro e w11 ⟨rfl,hb⟩;have hb0:=hb;have hb:=Start.then S10.out hb (by go_grown);have S11:=hid (S10.out.later hb);have X11:=hid (X10.out.later hb);have A11:=hid (A10.out.later hb);have p11c1:=S11.out.at_.c1;have p11cf:=S11.out.at_.fz;clear hb hb0))
    generalize hWn:World.setCell w11 _ _=w12
    have hAn:Away s.pb w11.heap.size w11 w12:=hWn▸(Away.refl _ _ _).setCell (q:=⟨s.pb,1,none⟩) (.inl rfl) _
    have hPn:=S11.out.at_.next (m7+1) (v:=.int .i64 (wrap64 ((m7:Int)+1))) (by rw [HW7.out])
    rw [hWn] at hPn
    have S12:=hid (S11.out.moved hAn hPn)
    have X12:=hid (X11.out.moved hAn);have A12:=hid (A11.out.moved hAn)
    clear hAn hPn hWn
    go_wp2_with ((go_at_call 205;refine (HC13.out _ (S12.out.at_.later (by go_grown))).mono ?_;intro e w9 hp;replace hp:=PT.from S12.out (by go_grown) hp;obtain ⟨rfl,hA⟩:=hp))
    all_goals exact ⟨rfl,by rw [<-HEq.out];exact ⟨rfl,S12.out.away.next hA⟩⟩
  |ok r13=>
  obtain ⟨t13,m13⟩:=r13
  rw [hr] at HC13 hR0 hs13
  simp only [R.andThen] at hR0
  clear hr hs13
  have HT15:=hid (fun W (h:PAt W s m13 (o+1))=>takes_calls s m13 (o+1) [101,110,100,46] W h)
  cases hr:takes s.ws s.e m13 [101,110,100,46] with
  |bad c p=>
   rw [hr] at HT15 hR0
   have HEq:=hid hR0
   clear hR0 hr
   go_enter Tryz.func239,Tryz.ntmps239
   go_wp2_with (first
    |(go_at_call 143;refine (H2.out _ (S0.out.at_.later (by go_grown))).mono ?_;rintro e w2 ⟨rfl,hb⟩;have hb0:=hb;have hb:=Start.then S0.out hb (by go_grown);have S2:=hid (S0.out.later hb);clear hb hb0)
    |(go_at_call 171;refine (HO.out _ (S2.out.at_.later (by go_grown))).mono ?_;intro e w3 hp;replace hp:=PO.from S2.out (by go_grown) hp;obtain ⟨rfl,hP,hA⟩:=hp;have S3:=hid (S2.out.moved hA hP);clear hP hA)
    |(go_at_call 203;refine (HC4.out _ (S3.out.at_.later (by go_grown))).mono ?_;intro e w4 hp;replace hp:=PT.from S3.out (by go_grown) hp;obtain ⟨y4,G4,rfl,hO,hG,hP,hA⟩:=hp;have S4:=hid (S3.out.moved hA hP);have T4:=hid (Tm.new S3.out hO hG (by simp) hA.size (by simp));clear hO hG hP hA;simp only [TV.val,TV.cells])
    |(go_at_call 148;refine (made_calls' _ _ _ _ _).mono ?_;rintro e w5 ⟨rfl,hb⟩;have hb0:=hb;have hb:=Start.then S4.out hb (by go_grown);have S5:=hid (S4.out.later hb);have N5:=hid (Nb.made S4.out T4.out hb0 S3.out.at_.lt 12 34 HL1.out);clear hb hb0;simp only [nodeV,TV.val,TV.cells])
    |(go_at_call 204;refine (HT6.out _ (S5.out.at_.later (by go_grown))).mono ?_;intro e w6 hp;have hA0:=hp.2.2;replace hp:=PN.from S5.out (by go_grown) hp;obtain ⟨rfl,hP,hA⟩:=hp;have S6:=hid (S5.out.moved hA hP);have N6:=hid (N5.out.moved hA0);have n6c5:=N6.out.box.cell 5 (.slice (some ⟨w4.heap.size,0,none⟩) 1 1) rfl;have n6cf:=N6.out.box.fz;have n6cl:=N6.out.box.lt;clear hP hA hA0))
   obtain ⟨ys,Fs,hk6,hf6,ho6⟩:=N6.out.rows
   have HK6:=hid hk6
   have HF6:=hid hf6
   have HO6:=hid ho6
   clear hk6 hf6 ho6
   go_region_law (first
    |(refine step_append_lo _ (by rfl) _ _ 32 (by rfl) 34 m0 _ 6 104 Tryz.underlying32 hm0 hmz0 hmz1 hmz2 (by rfl) (by decide) (w5.heap.size+1) (by have:=N7.out.box.lt;have:=T7.out.hi_;have:=T7.out.le;simp;omega) (.slice (some ⟨w4.heap.size,0,none⟩) 1 1) l1.length _ (by rfl) (HK7.out.row.alloc _) N7.out.room ⟨w7.heap.size,0,none⟩ 1 1 y7.cells.toList (by rfl) (by rfl) (World.news_of_block (heap_new _ _)) (tv_one y7) (by decide) (by have:=HLen.out;unfold maxLen;omega) (by have:=HLen.out;omega) ?_;intro g8 cap w8 hown hgrow hat hlt hgl hbl;have NBA:=((N7.out.box.later ((Below.refl _ _).alloc (Nat.le_refl _) (.cells y7.cells 34))).kept (hbl.block _ (by omega)) hbl.size);have nac5:=NBA.cell 5 (.slice (some ⟨w4.heap.size,0,none⟩) 1 1) rfl;have naf:=NBA.fz;have nal:=NBA.lt)
    |(go_simp;go_at_call 205;refine (HC7.out _ (S6.out.at_.later (by go_grown))).mono ?_;intro e w7 hp;replace hp:=PT.from S6.out (by go_grown) hp;obtain ⟨y7,G7,rfl,hO,hG,hP,hA⟩:=hp;have S7:=hid (S6.out.moved hA hP);have HSz7:=hid hA.size;have T7:=hid (Tm.new S6.out hO hG (by simp) hA.size (by simp));have N7:=hid (N6.out.moved hA);have HK7:=hid (HK6.out.away keeper_own hA (fun b hb'=>⟨(From.lt0 HF6.out b hb').2,by have:=(From.lt0 HF6.out b hb').1;have:=N6.out.pb;omega⟩));have n7c5:=N7.out.box.cell 5 (.slice (some ⟨w4.heap.size,0,none⟩) 1 1) rfl;have n7cf:=N7.out.box.fz;have n7cl:=N7.out.box.lt;clear hO hG hP hA;simp only [TV.val,TV.cells]))
   all_goals
    have HS9:=hid (((S7.out.later ((Below.refl _ _).alloc (Nat.le_refl _) _)).under ((S5.out.lo (Nat.le_refl _)).mono (Nat.le_succ _)) hbl).store (S5.out.lo (Nat.le_refl _)) 5 (.slice (some ⟨g8,0,none⟩) (l1.length+1) cap))
    have HN9:=hid (N7.out.step HK7.out HF6.out HO6.out T7.out (by have:=N6.out.box.lt;omega) hown hgrow hat hlt hgl hbl)
    clear hown hgrow hat hlt hgl hbl NBA nac5 naf nal n7c5 n7cf n7cl n6c5 n6cf n6cl
    generalize World.setCell w8 _ _=w9 at HS9 HN9 ⊢
    have S9:=HS9;have N9:=HN9
    clear HS9 HN9
    obtain ⟨l2,hl2⟩:∃ l2,l2=l1++[t7]:=⟨_,rfl⟩
    rw [<-hl2] at N9
    have HL2:=hid hl2
    have HLn2:=hid (show l2.length<=1048577 from by rw [hl2];have:=HLen.out;simp;omega)
    clear hl2
    go_upto_region 7 with fail
    obtain ⟨yo,hyo⟩:∃ yo:TV,yo=nodeV 14 0 ⟨#[]⟩ none 0 0:=⟨_,rfl⟩
    generalize hWa:World.alloc w9 _=w10
    have hba:Below w9.heap.size w9 w10:=hWa▸(Below.refl _ _).alloc (Nat.le_refl _) _
    have X10:=hid (show Bx s w10 w9.heap.size yo.cells from by rw [hyo,<-hWa];exact Bx.new S9.out _ _)
    have S10:=hid (S9.out.later hba)
    have N10:=hid (N9.out.later hba)
    have HYO:=hid hyo
    have A10:=hid ((Aw.refl s w9).later hba)
    clear hba hWa hyo
    go_upto_region 9 with (first
     |(go_at_call 143;refine (H10.out _ (S10.out.at_.later (by go_grown))).mono ?_;rintro e w11 ⟨rfl,hb⟩;have hb0:=hb;have hb:=Start.then S10.out hb (by go_grown);have S11:=hid (S10.out.later hb);have X11:=hid (X10.out.later hb);have A11:=hid (A10.out.later hb);have p11c1:=S11.out.at_.c1;have p11cf:=S11.out.at_.fz;clear hb hb0))
    generalize hWn:World.setCell w11 _ _=w12
    have hAn:Away s.pb w11.heap.size w11 w12:=hWn▸(Away.refl _ _ _).setCell (q:=⟨s.pb,1,none⟩) (.inl rfl) _
    have hPn:=S11.out.at_.next (m7+1) (v:=.int .i64 (wrap64 ((m7:Int)+1))) (by rw [HW7.out])
    rw [hWn] at hPn
    have S12:=hid (S11.out.moved hAn hPn)
    have X12:=hid (X11.out.moved hAn);have A12:=hid (A11.out.moved hAn)
    clear hAn hPn hWn
    go_upto_region 10 with (go_at_call 205;refine (HC13.out _ (S12.out.at_.later (by go_grown))).mono ?_;intro e w13 hp;replace hp:=PT.from S12.out (by go_grown) hp;obtain ⟨y13,G13,rfl,hO,hG,hP,hA⟩:=hp;have S13:=hid (S12.out.moved hA hP);have T13:=hid (Tm.new S12.out hO hG (by simp) hA.size (by simp));have X13:=hid (X12.out.moved hA);have A13:=hid (A12.out.moved hA);obtain ⟨x13c0,x13c1,x13c2,x13c3,x13c4,x13c5⟩:=X13.out.box.rt yo rfl;have x13cf:=X13.out.box.fz;have x13cl:=X13.out.box.lt;clear hO hG hP hA;simp only [TV.val,TV.cells])
    generalize hWs:World.setCell _ _ _=w14
    obtain ⟨hA14,hS14,hX14,hT14⟩:=Bx.term A13.out (S9.out.lo (Nat.le_refl _)) S13.out X13.out T13.out (by have:=X12.out.box.lt;omega) w14 hWs.symm
    have A14:=hid hA14
    have S14:=hid hS14
    have X14:=hid hX14
    have T14:=hid hT14
    have N14:=hid (N9.out.moved hA14.away)
    clear hA14 hS14 hX14 hT14 hWs
    go_wp2_with (go_at_call 204;refine (HT15.out _ (S14.out.at_.later (by go_grown))).mono ?_;intro e w9 hp;replace hp:=PN.from S14.out (by go_grown) hp;obtain ⟨rfl,hA⟩:=hp)
    all_goals exact ⟨rfl,by rw [<-HEq.out];exact ⟨rfl,S14.out.away.next hA⟩⟩
  |ok m15=>
   rw [hr] at HT15 hR0
   have HEq:=hid (show R.ok (made 12 ((l1++[t7])++[t13]),m15)=R0 from by rw [HL1.out];exact hR0)
   have HWo:=hid (show wrap64 (o:Int)=(o:Int) from by have:=HDp.out;unfold Deep at this;unfold wrap64;omega)
   clear hR0 hr
   go_enter Tryz.func239,Tryz.ntmps239
   go_wp2_with (first
    |(go_at_call 143;refine (H2.out _ (S0.out.at_.later (by go_grown))).mono ?_;rintro e w2 ⟨rfl,hb⟩;have hb0:=hb;have hb:=Start.then S0.out hb (by go_grown);have S2:=hid (S0.out.later hb);clear hb hb0)
    |(go_at_call 171;refine (HO.out _ (S2.out.at_.later (by go_grown))).mono ?_;intro e w3 hp;replace hp:=PO.from S2.out (by go_grown) hp;obtain ⟨rfl,hP,hA⟩:=hp;have S3:=hid (S2.out.moved hA hP);clear hP hA)
    |(go_at_call 203;refine (HC4.out _ (S3.out.at_.later (by go_grown))).mono ?_;intro e w4 hp;replace hp:=PT.from S3.out (by go_grown) hp;obtain ⟨y4,G4,rfl,hO,hG,hP,hA⟩:=hp;have S4:=hid (S3.out.moved hA hP);have T4:=hid (Tm.new S3.out hO hG (by simp) hA.size (by simp));clear hO hG hP hA;simp only [TV.val,TV.cells])
    |(go_at_call 148;refine (made_calls' _ _ _ _ _).mono ?_;rintro e w5 ⟨rfl,hb⟩;have hb0:=hb;have hb:=Start.then S4.out hb (by go_grown);have S5:=hid (S4.out.later hb);have N5:=hid (Nb.made S4.out T4.out hb0 S3.out.at_.lt 12 34 HL1.out);clear hb hb0;simp only [nodeV,TV.val,TV.cells])
    |(go_at_call 204;refine (HT6.out _ (S5.out.at_.later (by go_grown))).mono ?_;intro e w6 hp;have hA0:=hp.2.2;replace hp:=PN.from S5.out (by go_grown) hp;obtain ⟨rfl,hP,hA⟩:=hp;have S6:=hid (S5.out.moved hA hP);have N6:=hid (N5.out.moved hA0);have n6c5:=N6.out.box.cell 5 (.slice (some ⟨w4.heap.size,0,none⟩) 1 1) rfl;have n6cf:=N6.out.box.fz;have n6cl:=N6.out.box.lt;clear hP hA hA0))
   obtain ⟨ys,Fs,hk6,hf6,ho6⟩:=N6.out.rows
   have HK6:=hid hk6
   have HF6:=hid hf6
   have HO6:=hid ho6
   clear hk6 hf6 ho6
   go_region_law (first
    |(refine step_append_lo _ (by rfl) _ _ 32 (by rfl) 34 m0 _ 6 104 Tryz.underlying32 hm0 hmz0 hmz1 hmz2 (by rfl) (by decide) (w5.heap.size+1) (by have:=N7.out.box.lt;have:=T7.out.hi_;have:=T7.out.le;simp;omega) (.slice (some ⟨w4.heap.size,0,none⟩) 1 1) l1.length _ (by rfl) (HK7.out.row.alloc _) N7.out.room ⟨w7.heap.size,0,none⟩ 1 1 y7.cells.toList (by rfl) (by rfl) (World.news_of_block (heap_new _ _)) (tv_one y7) (by decide) (by have:=HLen.out;unfold maxLen;omega) (by have:=HLen.out;omega) ?_;intro g8 cap w8 hown hgrow hat hlt hgl hbl;have NBA:=((N7.out.box.later ((Below.refl _ _).alloc (Nat.le_refl _) (.cells y7.cells 34))).kept (hbl.block _ (by omega)) hbl.size);have nac5:=NBA.cell 5 (.slice (some ⟨w4.heap.size,0,none⟩) 1 1) rfl;have naf:=NBA.fz;have nal:=NBA.lt)
    |(go_simp;go_at_call 205;refine (HC7.out _ (S6.out.at_.later (by go_grown))).mono ?_;intro e w7 hp;replace hp:=PT.from S6.out (by go_grown) hp;obtain ⟨y7,G7,rfl,hO,hG,hP,hA⟩:=hp;have S7:=hid (S6.out.moved hA hP);have HSz7:=hid hA.size;have T7:=hid (Tm.new S6.out hO hG (by simp) hA.size (by simp));have N7:=hid (N6.out.moved hA);have HK7:=hid (HK6.out.away keeper_own hA (fun b hb'=>⟨(From.lt0 HF6.out b hb').2,by have:=(From.lt0 HF6.out b hb').1;have:=N6.out.pb;omega⟩));have n7c5:=N7.out.box.cell 5 (.slice (some ⟨w4.heap.size,0,none⟩) 1 1) rfl;have n7cf:=N7.out.box.fz;have n7cl:=N7.out.box.lt;clear hO hG hP hA;simp only [TV.val,TV.cells]))
   all_goals
    have HS9:=hid (((S7.out.later ((Below.refl _ _).alloc (Nat.le_refl _) _)).under ((S5.out.lo (Nat.le_refl _)).mono (Nat.le_succ _)) hbl).store (S5.out.lo (Nat.le_refl _)) 5 (.slice (some ⟨g8,0,none⟩) (l1.length+1) cap))
    have HN9:=hid (N7.out.step HK7.out HF6.out HO6.out T7.out (by have:=N6.out.box.lt;omega) hown hgrow hat hlt hgl hbl)
    clear hown hgrow hat hlt hgl hbl NBA nac5 naf nal n7c5 n7cf n7cl n6c5 n6cf n6cl
    generalize World.setCell w8 _ _=w9 at HS9 HN9 ⊢
    have S9:=HS9;have N9:=HN9
    clear HS9 HN9
    obtain ⟨l2,hl2⟩:∃ l2,l2=l1++[t7]:=⟨_,rfl⟩
    rw [<-hl2] at N9
    have HL2:=hid hl2
    have HLn2:=hid (show l2.length<=1048577 from by rw [hl2];have:=HLen.out;simp;omega)
    clear hl2
    go_upto_region 7 with fail
    obtain ⟨yo,hyo⟩:∃ yo:TV,yo=nodeV 14 0 ⟨#[]⟩ none 0 0:=⟨_,rfl⟩
    generalize hWa:World.alloc w9 _=w10
    have hba:Below w9.heap.size w9 w10:=hWa▸(Below.refl _ _).alloc (Nat.le_refl _) _
    have X10:=hid (show Bx s w10 w9.heap.size yo.cells from by rw [hyo,<-hWa];exact Bx.new S9.out _ _)
    have S10:=hid (S9.out.later hba)
    have N10:=hid (N9.out.later hba)
    have HYO:=hid hyo
    have A10:=hid ((Aw.refl s w9).later hba)
    clear hba hWa hyo
    go_upto_region 9 with (first
     |(go_at_call 143;refine (H10.out _ (S10.out.at_.later (by go_grown))).mono ?_;rintro e w11 ⟨rfl,hb⟩;have hb0:=hb;have hb:=Start.then S10.out hb (by go_grown);have S11:=hid (S10.out.later hb);have X11:=hid (X10.out.later hb);have A11:=hid (A10.out.later hb);have p11c1:=S11.out.at_.c1;have p11cf:=S11.out.at_.fz;clear hb hb0))
    generalize hWn:World.setCell w11 _ _=w12
    have hAn:Away s.pb w11.heap.size w11 w12:=hWn▸(Away.refl _ _ _).setCell (q:=⟨s.pb,1,none⟩) (.inl rfl) _
    have hPn:=S11.out.at_.next (m7+1) (v:=.int .i64 (wrap64 ((m7:Int)+1))) (by rw [HW7.out])
    rw [hWn] at hPn
    have S12:=hid (S11.out.moved hAn hPn)
    have X12:=hid (X11.out.moved hAn);have A12:=hid (A11.out.moved hAn)
    clear hAn hPn hWn
    go_upto_region 10 with (go_at_call 205;refine (HC13.out _ (S12.out.at_.later (by go_grown))).mono ?_;intro e w13 hp;replace hp:=PT.from S12.out (by go_grown) hp;obtain ⟨y13,G13,rfl,hO,hG,hP,hA⟩:=hp;have S13:=hid (S12.out.moved hA hP);have T13:=hid (Tm.new S12.out hO hG (by simp) hA.size (by simp));have X13:=hid (X12.out.moved hA);have A13:=hid (A12.out.moved hA);obtain ⟨x13c0,x13c1,x13c2,x13c3,x13c4,x13c5⟩:=X13.out.box.rt yo rfl;have x13cf:=X13.out.box.fz;have x13cl:=X13.out.box.lt;clear hO hG hP hA;simp only [TV.val,TV.cells])
    generalize hWs:World.setCell _ _ _=w14
    obtain ⟨hA14,hS14,hX14,hT14⟩:=Bx.term A13.out (S9.out.lo (Nat.le_refl _)) S13.out X13.out T13.out (by have:=X12.out.box.lt;omega) w14 hWs.symm
    have A14:=hid hA14
    have S14:=hid hS14
    have X14:=hid hX14
    have T14:=hid hT14
    have N14:=hid (N9.out.moved hA14.away)
    clear hA14 hS14 hX14 hT14 hWs
    go_upto_region 12 with (go_at_call 204;refine (HT15.out _ (S14.out.at_.later (by go_grown))).mono ?_;intro e w15 hp;have hA0:=hp.2.2;replace hp:=PN.from S14.out (by go_grown) hp;obtain ⟨rfl,hP,hA⟩:=hp;have S15:=hid (S14.out.moved hA hP);have N15:=hid (N14.out.moved hA);have X15:=hid (X14.out.moved hA);have A15:=hid (A14.out.moved hA);have T15:=hid (T14.out.moved hA);have p15c3:=S15.out.at_.c3;have p15cf:=S15.out.at_.fz;clear hP hA hA0)
    generalize hWn:World.setCell w15 _ _=w16
    have hAn:Away s.pb w15.heap.size w15 w16:=hWn▸(Away.refl _ _ _).setCell (q:=⟨s.pb,3,none⟩) (.inl rfl) _
    have hPn:=S15.out.at_.opened o (v:=.int .i64 (wrap64 (o:Int))) (by rw [HWo.out])
    rw [hWn] at hPn
    have S16:=hid (S15.out.moved hAn hPn)
    have N16:=hid (N15.out.moved hAn);obtain ⟨n16c0,n16c1,n16c2,n16c3,n16c4,n16c5⟩:=N16.out.box.r6 (.int .i64 12) (.string ⟨#[]⟩) (.int .i64 0) (.slice none 0 0) (.slice none 0 0) (.slice (some ⟨g8,0,none⟩) (l1.length+1) cap) rfl;have n16cf:=N16.out.box.fz;have n16cl:=N16.out.box.lt;have X16:=hid (X15.out.moved hAn);have A16:=hid (A15.out.moved hAn);have T16:=hid (T15.out.moved hAn);obtain ⟨x16c0,x16c1,x16c2,x16c3,x16c4,x16c5⟩:=X16.out.box.rt y13 rfl;have x16cf:=X16.out.box.fz;have x16cl:=X16.out.box.lt
    clear hAn hPn hWn
    obtain ⟨ys2,Fs2,hk6,hf6,ho6⟩:=N9.out.rows
    have HK16:=hid (hk6.away keeper_own A16.out.away (fun b hb=>⟨(From.lt0 hf6 b hb).2,by have:=(From.lt0 hf6 b hb).1;have:=N9.out.pb;omega⟩))
    have HF16:=hid (hf6.mono (Nat.le_refl _) (show w9.heap.size<=w12.heap.size from A12.out.away.size))
    have HO16:=hid ho6
    clear hk6 hf6 ho6
    go_upto_region 13 with (at_builtin;refine wpList_append_lo _ rfl _ _ 32 rfl 34 m0 _ 6 104 Tryz.underlying32 hm0 hmz0 hmz1 hmz2 rfl (by decide) (w5.heap.size+1) (by have:=N16.out.box.lt;simp;omega) (.slice (some ⟨g8,0,none⟩) (l1.length+1) cap) l2.length _ rfl (HK16.out.row.alloc _) N16.out.room ⟨w16.heap.size,0,none⟩ 1 1 y13.cells.toList rfl (by simp [TV.cells]) (World.news_of_block (heap_new _ _)) (tv_one y13) (by decide) (by have:=HLn2.out;unfold maxLen;omega) (by have:=HLn2.out;omega) ?_;intro g9 cap9 w17 hown hgrow hat hlt hgl hbl;have S17:=hid ((S16.out.later ((Below.refl _ _).alloc (Nat.le_refl _) (.cells y13.cells 34))).under ((S5.out.lo (Nat.le_refl _)).mono (Nat.le_succ _)) hbl);have NB:=(N16.out.box.later ((Below.refl _ _).alloc (Nat.le_refl _) (.cells y13.cells 34))).kept (hbl.block _ (by omega)) hbl.size;have n17c5:=NB.cell 5 (.slice (some ⟨g8,0,none⟩) (l1.length+1) cap) rfl;have n17cf:=NB.fz;have n17cl:=NB.lt)
    have N18:=hid (N16.out.step HK16.out HF16.out HO16.out T16.out (by have:=N9.out.box.lt;have:=A12.out.away.size;omega) hown hgrow hat hlt hgl hbl)
    have S18:=hid (S17.out.store (S5.out.lo (Nat.le_refl _)) 5 (.slice (some ⟨g9,0,none⟩) (l2.length+1) cap9))
    clear hown hgrow hat hlt hgl hbl NB n17c5 n17cf n17cl
    generalize World.setCell w17 _ _=w18 at N18 S18 ⊢
    obtain ⟨n18c0,n18c1,n18c2,n18c3,n18c4,n18c5⟩:=N18.out.box.r6 (.int .i64 12) (.string ⟨#[]⟩) (.int .i64 0) (.slice none 0 0) (.slice none 0 0) (.slice (some ⟨g9,0,none⟩) (l2.length+1) cap9) rfl;have n18cf:=N18.out.box.fz;have n18cl:=N18.out.box.lt
    obtain ⟨c0,c1,c2,c3,c4,c5⟩:=S18.out.box.rz rfl;have cf:=S18.out.box.fz;have cl:=S18.out.box.lt
    go_wp2_with fail
    obtain ⟨G,T⟩:=N18.out.term (by decide) (by have:=HLn2.out;simp;omega)
    refine bodyPost_ret (v:=(nodeV 12 0 ⟨#[]⟩ (some ⟨g9,0,none⟩) (l2.length+1) cap9).val) (by simp [results,Tryz.results239,nodeV,TV.val,TV.cells,c0,c1,c2,c3,c4,c5,cf,go_sem]) rfl ?_
    rw [<-HEq.out,<-HL2.out]
    exact T.ends S18.out S3.out.box.lt (by simp) _ _ _ _ _ _
end Pz
end Go.Proofs.YtpfkhdlnjefikaaGreatDoor
