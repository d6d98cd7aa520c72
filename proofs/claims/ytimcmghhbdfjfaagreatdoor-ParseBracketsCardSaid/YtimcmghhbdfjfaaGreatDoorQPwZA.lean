/- Package parse. -/
import Derived.Test.YtimcmghhbdfjfaaGreatDoorQPwAX
set_option linter.unusedVariables false
set_option linter.unusedSimpArgs false
set_option maxRecDepth 100000
set_option maxHeartbeats 8000000
namespace Go.Proofs.YtimcmghhbdfjfaaGreatDoor
open Go.RowKit
namespace Pz
theorem def_step {s:PS} {f g n o ub:Nat} {v:W} {w0 w:World} (hbd:CBody s f) (hg:g<=f) (hS:Start s w0 n o (unitCs zeroY v.at_) ub w) (hL:Lo s w0 ub (ub+1)) (hD:Deep o) (hnl:n<=s.ws.length) (hn:need s.ws n 9<=g+1) (h1:v.text≠[40]) (h2:v.text≠[112,105,99,107,46]):
 Calls Tryz.prog 156 #[ptr s,wordV v,.pointer (some ⟨ub,0,none⟩)] w (PB 61 s w0 ub o (within s.ws s.e (g+1) v n o)):=by
 obtain ⟨m0,hm0,hmz0,hmz1,hmz2⟩:=info_parts info_term1;obtain ⟨R0,hR0⟩:∃ R0,within s.ws s.e (g+1) v n o=R0:=⟨_,rfl⟩;rw [hR0];have HOk:=hid hS.at_.ok;have HG:=hid hg;have HN:=hid hn;have HNL:=hid hnl;have HDp:=hid hD;have S0:=hid hS;have L0:=hid hL;unfold ptr wordV;have HBD:=hid hbd;rw [within,if_neg h1,if_neg h2] at hR0;have d1:((bytes v.text).toList==[40])=false:=by rw [text_beq];simp [h1]
 have d2:((bytes v.text).toList==[112,105,99,107,46])=false:=by rw [text_beq];simp [h2]
 clear h1 h2 hbd hg hS hL hD hnl hn;have hs2:=(sound (fun i w h=>(HOk.word i w h).1) g).body n o HNL.out (by have:=HN.out;unfold need at*;omega);have HC:=hid (fun W (h:PAt W s n o)=>HBD.out g HG.out n o W h HDp.out HNL.out (by have:=HN.out;unfold need at*;omega));unfold ptr at HC;cases hr:body s.ws s.e g n o with
 |bad c p=>
  rw [hr] at HC hR0;have HEq:=hid hR0;clear hR0 hr hs2;go_enter Tryz.func156,Tryz.ntmps156
  go_upto_region 1 with fail
  generalize hWa:World.alloc w _=w1;have hba:Below w.heap.size w w1:=hWa▸(qb _ _).alloc (qa _) _;have X1:=hid (show Bx s w1 w.heap.size (wcells v) from by rw [<-hWa];exact Bx.new S0.out _ _);have S1:=hid (S0.later hba);clear hba hWa;obtain ⟨x1c0,x1c1,x1c2⟩:=X1.box.rv v rfl;have x1cf:=X1.box.fz;have x1cl:=X1.box.lt;go_wp2_with ((go_at_call 195;refine (HC.out _ (S1.at_.later (by go_grown))).mono ?_;intro e w9 hp;replace hp:=PT.from S1.out (by go_grown) hp;obtain ⟨rfl,hA⟩:=hp))
  all_goals exact ⟨rfl,by rw [<-HEq.out];exact ⟨rfl,S1.away.next hA⟩⟩
 |ok r2=>
 obtain ⟨t2,m2⟩:=r2;rw [hr] at HC hR0 hs2;have HM2:=hid (show n<=m2/\m2<=s.ws.length from hs2);simp only [R.andThen] at hR0;clear hr hs2;have HT:=hid (fun W (h:PAt W s m2 o)=>takes_calls s m2 o [125,125] W h);by_cases h3:v.text=[123,123,41,100]
 ·rw [if_pos h3] at hR0
  have d3:((bytes v.text).toList==[123,123,41,100])=true:=by rw [text_beq];simp [h3]
  clear h3;have HR0:=hid hR0;clear hR0;go_enter Tryz.func156,Tryz.ntmps156
  go_upto_region 1 with fail
  generalize hWa:World.alloc w _=w1;have hba:Below w.heap.size w w1:=hWa▸(qb _ _).alloc (qa _) _;have X1:=hid (show Bx s w1 w.heap.size (wcells v) from by rw [<-hWa];exact Bx.new S0.out _ _);have S1:=hid (S0.later hba);clear hba hWa;obtain ⟨x1c0,x1c1,x1c2⟩:=X1.box.rv v rfl;have x1cf:=X1.box.fz;have x1cl:=X1.box.lt;go_upto_region 3 with (first
   |(with_reducible refine wpList_buildSlice (by rfl) 26 28 1 _ (by rfl) y2.cells m0 _ (by kernel_rfl) hm0 hmz0 (by rw [hmz1];decide) (by rw [hmz1];decide) (by rw [hmz1];kernel_rfl) ?_;generalize hWb:World.alloc w2 _=w3;have hbb:Below w2.heap.size w2 w3:=hWb▸(qb _ _).alloc (qa _) _;have S3:=hid (S2.out.later hbb);have X3:=hid (X2.out.later hbb);have HWB:=hid hWb;clear hWb hbb;obtain ⟨u3c0,u3c1,u3c2,u3c3,u3c4,u3c5,u3c6,u3c7,u3c8⟩:=S3.out.box.r9 (.int .i64 0) (.string ⟨#[]⟩) (.int .i64 0) (.slice none 0 0) (.slice none 0 0) (.slice none 0 0) (.slice none 0 0) (.bool false) (.int .i64 (v.at_:Int)) rfl;have u3cf:=S3.out.box.fz;have u3cl:=S3.out.box.lt)
   |(go_at_call 195;refine (HC.out _ (S1.at_.later (by go_grown))).mono ?_;intro e w2 hp;replace hp:=PT.from S1.out (by go_grown) hp;obtain ⟨y2,G2,rfl,hO,hG,hP,hA⟩:=hp;have S2:=hid (S1.moved hA hP);have T2:=hid (Tm.new S1.out hO hG (by simp) hA.size (by simp));have X2:=hid (X1.moved hA);clear hO hG hP hA;simp only [TV.val,TV.cells]))
  generalize hWs:World.setCell _ _ _=w5;have hTg:=T2.node1g (k:=23) (nn:=2) (b:=⟨#[]⟩) (by decide) (by omega) (by omega) S2.at_.lt;rw [HWB.out] at hTg;have hS3:=S3.lay (nodeV 23 1 ⟨#[]⟩ (some ⟨w2.heap.size,0,none⟩) 1 1);have hT3:=hTg.six (b:=ub) (m:=0) (y':=nodeV 23 1 ⟨#[]⟩ (some ⟨w2.heap.size,0,none⟩) 1 1) (hTg.above S1.box.lt);have hX3:=X3.six (ub:=ub) (m:=0) (y:=nodeV 23 1 ⟨#[]⟩ (some ⟨w2.heap.size,0,none⟩) 1 1) (by have:=S0.box.lt;omega);rw [show sixAt w3 ub 0 (nodeV 23 1 ⟨#[]⟩ (some ⟨w2.heap.size,0,none⟩) 1 1)=w5 from hWs] at hS3 hT3 hX3;have S5:=hid hS3;have T5:=hid hT3;have X5:=hid hX3;clear hTg hS3 hT3 hX3 hWs u3c0 u3c1 u3c2 u3c3 u3c4 u3c5 u3c6 u3c7 u3c8 u3cf u3cl;obtain ⟨x5c0,x5c1,x5c2⟩:=X5.box.rv v rfl;have x5cf:=X5.box.fz;have x5cl:=X5.box.lt;obtain ⟨u5c0,u5c1,u5c2,u5c3,u5c4,u5c5,u5c6,u5c7,u5c8⟩:=S5.box.r9 (.int .i64 23) (.string ⟨#[]⟩) (.int .i64 1) (.slice none 0 0) (.slice none 0 0) (.slice (some ⟨w2.heap.size,0,none⟩) 1 1) (.slice none 0 0) (.bool false) (.int .i64 (v.at_:Int)) rfl;have u5cf:=S5.box.fz;have u5cl:=S5.box.lt;go_upto_region 5 with fail
  generalize hWs:World.setCell _ _ _=w6;have hS3:=S5.put 2 (.int .i64 2) (by simp [unitCs]);have hT3:=T5.set (q:=⟨ub,2,none⟩) (T5.above S1.box.lt) (.int .i64 2);rw [hWs] at hS3 hT3;have S6:=hid (show Start s w0 m2 o (unitCs (nodeV 23 2 ⟨#[]⟩ (some ⟨w2.heap.size,0,none⟩) 1 1) v.at_) ub w6 from by simpa [unitCs,nodeV] using hS3);have T6:=hid hT3;clear hS3 hT3 hWs;have hR0:=HR0.out;clear HR0;cases hr:takes s.ws s.e m2 [125,125] with
  |bad c p=>
   rw [hr] at HT hR0;have HEq:=hid hR0;clear hR0 hr;go_wp2_with (go_at_call 194;refine (HT.out _ (S6.at_.later (by go_grown))).mono ?_;intro e w9 hp;replace hp:=PN.from S6.out (by go_grown) hp;obtain ⟨rfl,hA⟩:=hp)
   all_goals exact ⟨rfl,by rw [<-HEq.out];exact ⟨rfl,S6.away.next hA⟩⟩
  |ok m3=>
   rw [hr] at HT hR0;have HEq:=hid hR0;clear hR0 hr;go_wp2_with (go_at_call 194;refine (HT.out _ (S6.at_.later (by go_grown))).mono ?_;intro e w7 hp;have hA0:=hp.2.2;replace hp:=PN.from S6.out (by go_grown) hp;obtain ⟨rfl,hP,hA⟩:=hp;have S7:=hid (S6.moved hA hP);have T7:=hid (T6.moved hA);clear hP hA hA0)
   all_goals
    refine bodyPost_ret (v:=.tuple #[]) (by simp [results,Tryz.results156,go_sem]) rfl ?_;rw [<-HEq.out];exact PB.ends S7.out T7.out S1.box.lt
 ·rw [if_neg h3] at hR0
  have d3:((bytes v.text).toList==[123,123,41,100])=false:=by rw [text_beq];simp [h3]
  clear h3;have HR0:=hid hR0;clear hR0;go_enter Tryz.func156,Tryz.ntmps156
  go_upto_region 1 with fail
  generalize hWa:World.alloc w _=w1;have hba:Below w.heap.size w w1:=hWa▸(qb _ _).alloc (qa _) _;have X1:=hid (show Bx s w1 w.heap.size (wcells v) from by rw [<-hWa];exact Bx.new S0.out _ _);have S1:=hid (S0.later hba);clear hba hWa;obtain ⟨x1c0,x1c1,x1c2⟩:=X1.box.rv v rfl;have x1cf:=X1.box.fz;have x1cl:=X1.box.lt;go_upto_region 3 with (first
   |(with_reducible refine wpList_buildSlice (by rfl) 26 28 1 _ (by rfl) y2.cells m0 _ (by kernel_rfl) hm0 hmz0 (by rw [hmz1];decide) (by rw [hmz1];decide) (by rw [hmz1];kernel_rfl) ?_;generalize hWb:World.alloc w2 _=w3;have hbb:Below w2.heap.size w2 w3:=hWb▸(qb _ _).alloc (qa _) _;have S3:=hid (S2.out.later hbb);have X3:=hid (X2.out.later hbb);have HWB:=hid hWb;clear hWb hbb;obtain ⟨u3c0,u3c1,u3c2,u3c3,u3c4,u3c5,u3c6,u3c7,u3c8⟩:=S3.out.box.r9 (.int .i64 0) (.string ⟨#[]⟩) (.int .i64 0) (.slice none 0 0) (.slice none 0 0) (.slice none 0 0) (.slice none 0 0) (.bool false) (.int .i64 (v.at_:Int)) rfl;have u3cf:=S3.out.box.fz;have u3cl:=S3.out.box.lt)
   |(go_at_call 195;refine (HC.out _ (S1.at_.later (by go_grown))).mono ?_;intro e w2 hp;replace hp:=PT.from S1.out (by go_grown) hp;obtain ⟨y2,G2,rfl,hO,hG,hP,hA⟩:=hp;have S2:=hid (S1.moved hA hP);have T2:=hid (Tm.new S1.out hO hG (by simp) hA.size (by simp));have X2:=hid (X1.moved hA);clear hO hG hP hA;simp only [TV.val,TV.cells]))
  generalize hWs:World.setCell _ _ _=w5;have hTg:=T2.node1g (k:=23) (nn:=1) (b:=⟨#[]⟩) (by decide) (by omega) (by omega) S2.at_.lt;rw [HWB.out] at hTg;have hS3:=S3.lay (nodeV 23 1 ⟨#[]⟩ (some ⟨w2.heap.size,0,none⟩) 1 1);have hT3:=hTg.six (b:=ub) (m:=0) (y':=nodeV 23 1 ⟨#[]⟩ (some ⟨w2.heap.size,0,none⟩) 1 1) (hTg.above S1.box.lt);have hX3:=X3.six (ub:=ub) (m:=0) (y:=nodeV 23 1 ⟨#[]⟩ (some ⟨w2.heap.size,0,none⟩) 1 1) (by have:=S0.box.lt;omega);rw [show sixAt w3 ub 0 (nodeV 23 1 ⟨#[]⟩ (some ⟨w2.heap.size,0,none⟩) 1 1)=w5 from hWs] at hS3 hT3 hX3;have S5:=hid hS3;have T5:=hid hT3;have X5:=hid hX3;clear hTg hS3 hT3 hX3 hWs u3c0 u3c1 u3c2 u3c3 u3c4 u3c5 u3c6 u3c7 u3c8 u3cf u3cl;obtain ⟨x5c0,x5c1,x5c2⟩:=X5.box.rv v rfl;have x5cf:=X5.box.fz;have x5cl:=X5.box.lt;obtain ⟨u5c0,u5c1,u5c2,u5c3,u5c4,u5c5,u5c6,u5c7,u5c8⟩:=S5.box.r9 (.int .i64 23) (.string ⟨#[]⟩) (.int .i64 1) (.slice none 0 0) (.slice none 0 0) (.slice (some ⟨w2.heap.size,0,none⟩) 1 1) (.slice none 0 0) (.bool false) (.int .i64 (v.at_:Int)) rfl;have u5cf:=S5.box.fz;have u5cl:=S5.box.lt;have hR0:=HR0.out;clear HR0;cases hr:takes s.ws s.e m2 [125,125] with
  |bad c p=>
   rw [hr] at HT hR0;have HEq:=hid hR0;clear hR0 hr;go_wp2_with (go_at_call 194;refine (HT.out _ (S5.at_.later (by go_grown))).mono ?_;intro e w9 hp;replace hp:=PN.from S5.out (by go_grown) hp;obtain ⟨rfl,hA⟩:=hp)
   all_goals exact ⟨rfl,by rw [<-HEq.out];exact ⟨rfl,S5.away.next hA⟩⟩
  |ok m3=>
   rw [hr] at HT hR0;have HEq:=hid hR0;clear hR0 hr;go_wp2_with (go_at_call 194;refine (HT.out _ (S5.at_.later (by go_grown))).mono ?_;intro e w6 hp;have hA0:=hp.2.2;replace hp:=PN.from S5.out (by go_grown) hp;obtain ⟨rfl,hP,hA⟩:=hp;have S6:=hid (S5.moved hA hP);have T6:=hid (T5.moved hA);clear hP hA hA0)
   all_goals
    refine bodyPost_ret (v:=.tuple #[]) (by simp [results,Tryz.results156,go_sem]) rfl ?_;rw [<-HEq.out];exact PB.ends S6.out T6.out S1.box.lt
end Pz
open Go.RowKit
namespace Pz
structure PK (s:PS) (w0:World) (o ub:Nat) (R0:R (U × Nat)) (f:Nat) (v:W) (n:Nat) (A:Option Addr) (cap:Nat) (l:List T) (wr:World):Prop where
 start:Start s w0 n o (unitCs (nodeV 5 0 ⟨#[]⟩ A l.length cap) v.at_) ub wr
 nb:Nb s ub (ub+1) 5 (.slice A l.length cap) l wr
 eq:∃ g,g<=f/\need s.ws n 1<=g/\picks s.ws s.e g v n o l=R0
 len:n<=s.ws.length/\l.length<=n
theorem PK.of {s:PS} {w0 wr:World} {o ub f n len cap:Nat} {R0:R (U × Nat)} {v:W} {A:Option Addr} {l:List T} (hS:Start s w0 n o (unitCs (nodeV 5 0 ⟨#[]⟩ A len cap) v.at_) ub wr) (hN:Nb s ub (ub+1) 5 (.slice A len cap) l wr) (hl:l.length=len) (he:∃ g,g<=f/\need s.ws n 1<=g/\picks s.ws s.e g v n o l=R0) (hn:n<=s.ws.length/\len<=n):PK s w0 o ub R0 f v n A cap l wr:=by
 subst hl;exact ⟨hS,hN,he,hn⟩
theorem set_comm2 (w:World) {p g:Nat} (h:p≠g) (m:Nat) (s:Value) (y:TV):sixAt (w.setCell ⟨p,5,none⟩ s) g m y=(sixAt w g m y).setCell ⟨p,5,none⟩ s:=by
 have hc:∀ (W:World) (q:Nat) (u:Value),(W.setCell ⟨p,5,none⟩ s).setCell ⟨g,q,none⟩ u=(W.setCell ⟨g,q,none⟩ u).setCell ⟨p,5,none⟩ s:=fun W q u=>by
  unfold World.setCell;simp only
  congr 1
  apply Array.ext_getElem?;intro i;simp only [Array.getElem?_modify];by_cases h1:p=i
  ·by_cases h2:g=i
   ·exact absurd (h1.trans h2.symm) h
   ·simp [h1,h2]
  ·by_cases h2:g=i
   ·simp [h1,h2]
   ·simp [h1,h2]
 unfold sixAt;rw [hc,hc,hc,hc,hc,hc]
theorem pick_step {s:PS} {f g n o ub:Nat} {v:W} {w0 w:World} (hnn:CNoun s f) (hg:g<=f) (hS:Start s w0 n o (unitCs zeroY v.at_) ub w) (hL:Lo s w0 ub (ub+1)) (hD:Deep o) (hnl:n<=s.ws.length) (hn:need s.ws n 9<=g+1) (h2:v.text=[112,105,99,107,46]):
 Calls Tryz.prog 156 #[ptr s,wordV v,.pointer (some ⟨ub,0,none⟩)] w (PB 61 s w0 ub o (within s.ws s.e (g+1) v n o)):=by
 obtain ⟨m0,hm0,hmz0,hmz1,hmz2⟩:=info_parts info_term1;obtain ⟨R0,hR0⟩:∃ R0,within s.ws s.e (g+1) v n o=R0:=⟨_,rfl⟩;rw [hR0];have HOk:=hid hS.at_.ok;have HG:=hid hg;have HN:=hid hn;have HNL:=hid hnl;have HDp:=hid hD;have S0:=hid hS;have L0:=hid hL;unfold ptr wordV;have HNN:=hid hnn;rw [within,if_neg (by rw [h2];decide),if_pos h2] at hR0;have d1:((bytes v.text).toList==[40])=false:=by rw [text_beq];simp [h2]
 have d2:((bytes v.text).toList==[112,105,99,107,46])=true:=by rw [text_beq];simp [h2]
 clear h2 hnn hg hS hL hD hnl hn;have hs2:=(sound (fun i w h=>(HOk.word i w h).1) g).noun n o (by have:=HN.out;unfold need at*;omega);have HC:=hid (fun W (h:PAt W s n o)=>HNN.out g HG.out n o W h HDp.out (by have:=HN.out;unfold need at*;omega));unfold ptr at HC;cases hr:noun s.ws s.e g n o with
 |bad c p=>
  rw [hr] at HC hR0;have HEq:=hid hR0;clear hR0 hr hs2;go_enter Tryz.func156,Tryz.ntmps156
  go_upto_region 1 with fail
  generalize hWa:World.alloc w _=w1;have hba:Below w.heap.size w w1:=hWa▸(qb _ _).alloc (qa _) _;have X1:=hid (show Bx s w1 w.heap.size (wcells v) from by rw [<-hWa];exact Bx.new S0.out _ _);have S1:=hid (S0.later hba);clear hba hWa;obtain ⟨x1c0,x1c1,x1c2⟩:=X1.box.rv v rfl;have x1cf:=X1.box.fz;have x1cl:=X1.box.lt;go_wp2_with ((go_at_call 193;refine (HC.out _ (S1.at_.later (by go_grown))).mono ?_;intro e w9 hp;replace hp:=PT.from S1.out (by go_grown) hp;obtain ⟨rfl,hA⟩:=hp))
  all_goals exact ⟨rfl,by rw [<-HEq.out];exact ⟨rfl,S1.away.next hA⟩⟩
 |ok r2=>
 obtain ⟨t2,m2⟩:=r2;rw [hr] at HC hR0 hs2;have HM2:=hid (show n<m2/\m2<=s.ws.length from hs2);simp only [R.andThen] at hR0;clear hr hs2;obtain ⟨l1,hl1⟩:∃ l1,l1=[t2]:=⟨_,rfl⟩;have HL1:=hid hl1;clear hl1;have HT:=hid (fun W (h:PAt W s m2 o)=>takes_calls s m2 o [100,111,46] W h);cases hr:takes s.ws s.e m2 [100,111,46] with
 |bad c p=>
  rw [hr] at HT hR0;have HEq:=hid hR0;clear hR0 hr;go_enter Tryz.func156,Tryz.ntmps156
  go_upto_region 1 with fail
  generalize hWa:World.alloc w _=w1;have hba:Below w.heap.size w w1:=hWa▸(qb _ _).alloc (qa _) _;have X1:=hid (show Bx s w1 w.heap.size (wcells v) from by rw [<-hWa];exact Bx.new S0.out _ _);have S1:=hid (S0.later hba);clear hba hWa;obtain ⟨x1c0,x1c1,x1c2⟩:=X1.box.rv v rfl;have x1cf:=X1.box.fz;have x1cl:=X1.box.lt;go_upto_region 10 with (first
   |(go_at_call 193;refine (HC.out _ (S1.at_.later (by go_grown))).mono ?_;intro e w2 hp;replace hp:=PT.from S1.out (by go_grown) hp;obtain ⟨y2,G2,rfl,hO,hG,hP,hA⟩:=hp;have S2:=hid (S1.moved hA hP);have T2:=hid (Tm.new S1.out hO hG (by simp) hA.size (by simp));skip;clear hO hG hP hA;simp only [TV.val,TV.cells])
   |(go_at_call 127;refine (made_calls' _ _ _ _ _).mono ?_;rintro e w3 ⟨rfl,hb⟩;have HK3:=hid (kids_one T2.out S1.box.lt hb);have hb:=Start.then S2.out hb (by go_grown);have S3:=hid (S2.later hb);obtain ⟨u3c0,u3c1,u3c2,u3c3,u3c4,u3c5,u3c6,u3c7,u3c8⟩:=S3.box.r9 (.int .i64 0) (.string ⟨#[]⟩) (.int .i64 0) (.slice none 0 0) (.slice none 0 0) (.slice none 0 0) (.slice none 0 0) (.bool false) (.int .i64 (v.at_:Int)) rfl;have u3cf:=S3.box.fz;have u3cl:=S3.box.lt;clear hb;simp only [nodeV,TV.val,TV.cells]))
  generalize hWs:World.setCell _ _ _=w4;obtain ⟨hK,hF⟩:=HK3.out;have hN:=Nb.lay (k:=5) S3.out L0.out hK hF (.inl (fun A n c e=>by cases e;exact qa _));have hS:=S3.lay (nodeV 5 0 ⟨#[]⟩ (some ⟨w2.heap.size,0,none⟩) 1 1);rw [show sixAt w3 ub 0 (nodeV 5 0 ⟨#[]⟩ (some ⟨w2.heap.size,0,none⟩) 1 1)=w4 from hWs] at hN hS;have S4:=hid (show Start s w0 m2 o (unitCs (nodeV 5 0 ⟨#[]⟩ (some ⟨w2.heap.size,0,none⟩) l1.length 1) v.at_) ub w4 from by rw [HL1.out];exact hS);have N4:=hid (show Nb s ub (ub+1) 5 (.slice (some ⟨w2.heap.size,0,none⟩) l1.length 1) l1 w4 from by rw [HL1.out];exact hN);clear hK hF hN hS hWs u3c0 u3c1 u3c2 u3c3 u3c4 u3c5 u3c6 u3c7 u3c8 u3cf u3cl x1c0 x1c1 x1c2 x1cf x1cl X1;go_wp2_with (go_at_call 194;refine (HT.out _ (S4.at_.later (by go_grown))).mono ?_;intro e w9 hp;replace hp:=PN.from S4.out (by go_grown) hp;obtain ⟨rfl,hA⟩:=hp)
  all_goals exact ⟨rfl,by rw [<-HEq.out];exact ⟨rfl,S4.away.next hA⟩⟩
 |ok m5=>
 rw [hr] at HT hR0;have HM5:=hid (show m5=m2+1/\m2<s.ws.length from by
  unfold takes at hr;cases hse:sees s.ws m2 [100,111,46] with
  |true=>rw [hse,if_pos rfl] at hr;injection hr with hr;exact ⟨hr.symm,sees_lt hse⟩
  |false=>rw [hse] at hr;cases hr)
 simp only [R.andThen] at hR0;clear hr;have hs6:=(sound (fun i w h=>(HOk.word i w h).1) g).noun m5 o (by have:=HN.out;have:=HM2.out;have:=HM5.out;unfold need at*;omega);have HC6:=hid (fun W (h:PAt W s m5 o)=>HNN.out g HG.out m5 o W h HDp.out (by have:=HN.out;have:=HM2.out;have:=HM5.out;unfold need at*;omega));unfold ptr at HC6;cases hr:noun s.ws s.e g m5 o with
 |bad c p=>
  rw [hr] at HC6 hR0;have HEq:=hid hR0;clear hR0 hr hs6;go_enter Tryz.func156,Tryz.ntmps156
  go_upto_region 1 with fail
  generalize hWa:World.alloc w _=w1;have hba:Below w.heap.size w w1:=hWa▸(qb _ _).alloc (qa _) _;have X1:=hid (show Bx s w1 w.heap.size (wcells v) from by rw [<-hWa];exact Bx.new S0.out _ _);have S1:=hid (S0.later hba);clear hba hWa;obtain ⟨x1c0,x1c1,x1c2⟩:=X1.box.rv v rfl;have x1cf:=X1.box.fz;have x1cl:=X1.box.lt;go_upto_region 10 with (first
   |(go_at_call 193;refine (HC.out _ (S1.at_.later (by go_grown))).mono ?_;intro e w2 hp;replace hp:=PT.from S1.out (by go_grown) hp;obtain ⟨y2,G2,rfl,hO,hG,hP,hA⟩:=hp;have S2:=hid (S1.moved hA hP);have T2:=hid (Tm.new S1.out hO hG (by simp) hA.size (by simp));skip;clear hO hG hP hA;simp only [TV.val,TV.cells])
   |(go_at_call 127;refine (made_calls' _ _ _ _ _).mono ?_;rintro e w3 ⟨rfl,hb⟩;have HK3:=hid (kids_one T2.out S1.box.lt hb);have hb:=Start.then S2.out hb (by go_grown);have S3:=hid (S2.later hb);obtain ⟨u3c0,u3c1,u3c2,u3c3,u3c4,u3c5,u3c6,u3c7,u3c8⟩:=S3.box.r9 (.int .i64 0) (.string ⟨#[]⟩) (.int .i64 0) (.slice none 0 0) (.slice none 0 0) (.slice none 0 0) (.slice none 0 0) (.bool false) (.int .i64 (v.at_:Int)) rfl;have u3cf:=S3.box.fz;have u3cl:=S3.box.lt;clear hb;simp only [nodeV,TV.val,TV.cells]))
  generalize hWs:World.setCell _ _ _=w4;obtain ⟨hK,hF⟩:=HK3.out;have hN:=Nb.lay (k:=5) S3.out L0.out hK hF (.inl (fun A n c e=>by cases e;exact qa _));have hS:=S3.lay (nodeV 5 0 ⟨#[]⟩ (some ⟨w2.heap.size,0,none⟩) 1 1);rw [show sixAt w3 ub 0 (nodeV 5 0 ⟨#[]⟩ (some ⟨w2.heap.size,0,none⟩) 1 1)=w4 from hWs] at hN hS;have S4:=hid (show Start s w0 m2 o (unitCs (nodeV 5 0 ⟨#[]⟩ (some ⟨w2.heap.size,0,none⟩) l1.length 1) v.at_) ub w4 from by rw [HL1.out];exact hS);have N4:=hid (show Nb s ub (ub+1) 5 (.slice (some ⟨w2.heap.size,0,none⟩) l1.length 1) l1 w4 from by rw [HL1.out];exact hN);clear hK hF hN hS hWs u3c0 u3c1 u3c2 u3c3 u3c4 u3c5 u3c6 u3c7 u3c8 u3cf u3cl x1c0 x1c1 x1c2 x1cf x1cl X1;go_upto_region 11 with (go_at_call 194;refine (HT.out _ (S4.at_.later (by go_grown))).mono ?_;intro e w5 hp;have hA0:=hp.2.2;replace hp:=PN.from S4.out (by go_grown) hp;obtain ⟨rfl,hP,hA⟩:=hp;have S5:=hid (S4.moved hA hP);have N5:=hid (N4.moved hA0);obtain ⟨u5c0,u5c1,u5c2,u5c3,u5c4,u5c5,u5c6,u5c7,u5c8⟩:=S5.box.r9 (.int .i64 5) (.string ⟨#[]⟩) (.int .i64 0) (.slice none 0 0) (.slice none 0 0) (.slice (some ⟨w2.heap.size,0,none⟩) l1.length 1) (.slice none 0 0) (.bool false) (.int .i64 (v.at_:Int)) rfl;have u5cf:=S5.box.fz;have u5cl:=S5.box.lt;clear hP hA hA0)
  refine wp_region_held_drew (S:=fun w'=>w'.cell? ⟨ub,5,none⟩=some (.slice (some ⟨w2.heap.size,0,none⟩) l1.length 1)) (by kernel_rfl) (by exact u5c5) (fun hHeld=>?_);refine wpAnyH_take (i:=0) (v:=?_) rfl (by kernel_rfl) (by kernel_rfl) (by kernel_rfl) (fun _ _ _ h=>h) (Or.inl ⟨by rfl,?_⟩) (by assumption) ?_;rotate_left
  ·intro w hSw
   (try dsimp only at hSw)
   go_simp;try with_reducible rfl
  try simp only [Act.put,qk,qll,qm]
  refine wpAnyH_take (i:=1) (v:=?_) rfl (by kernel_rfl) (by kernel_rfl) (by kernel_rfl) (fun _ _ _ h=>h) (Or.inl ⟨by rfl,?_⟩) (by assumption) ?_;rotate_left
  ·intro w hSw
   (try dsimp only at hSw)
   go_simp;try with_reducible rfl
  try simp only [Act.put,qk,qll,qm]
  refine wpAnyH_take (i:=2) (v:=?_) rfl (by kernel_rfl) (by kernel_rfl) (by kernel_rfl) (fun _ _ _ h=>h) (Or.inl ⟨by rfl,?_⟩) (by assumption) ?_;rotate_left
  ·intro w hSw
   (try dsimp only at hSw)
   go_simp;try with_reducible rfl
  try simp only [Act.put,qk,qll,qm]
  refine wpAnyH_take (i:=3) (v:=?_) rfl (by kernel_rfl) (by kernel_rfl) (by kernel_rfl) (fun _ _ _ h=>h) (Or.inl ⟨by rfl,?_⟩) (by assumption) ?_;rotate_left
  ·intro w hSw
   (try dsimp only at hSw)
   go_simp;try with_reducible rfl
  try simp only [Act.put,qk,qll,qm]
  refine wpAnyH_take (i:=4) (v:=?_) rfl (by kernel_rfl) (by kernel_rfl) (by kernel_rfl) (fun _ _ _ h=>h) (Or.inl ⟨by rfl,?_⟩) (by assumption) ?_;rotate_left
  ·intro w hSw
   (try dsimp only at hSw)
   go_simp;try with_reducible rfl
  try simp only [Act.put,qk,qll,qm]
  refine wpAnyH_take (i:=5) (v:=?_) rfl (by kernel_rfl) (by kernel_rfl) (by kernel_rfl) (fun _ _ _ h=>h) (Or.inl ⟨by rfl,?_⟩) (by assumption) ?_;rotate_left
  ·intro w hSw
   (try dsimp only at hSw)
   go_simp;try with_reducible rfl
  try simp only [Act.put,qk,qll,qm]
  refine wpAnyH_take (i:=7) (v:=?_) rfl (by kernel_rfl) (by kernel_rfl) (by kernel_rfl) (fun _ _ _ h=>h) (Or.inl ⟨by rfl,?_⟩) (by assumption) ?_;rotate_left
  ·intro w hSw
   (try dsimp only at hSw)
   go_simp;try with_reducible rfl
  try simp only [Act.put,qk,qll,qm]
  refine wpAnyH_ready (rs:=[6,8]) (by kernel_rfl) (by simp) ?_;refine AllReadyH.cons rfl (fun K hK=>?_) (AllReadyH.cons rfl (fun K hK=>?_) AllReadyH.nil)
  ·go_simp
   go_wp2_with (go_at_call 193;refine (HC6.out _ (S5.at_.later (by go_grown))).mono ?_;intro e w9 hp;replace hp:=PT.from S5.out (by go_grown) hp;obtain ⟨rfl,hA⟩:=hp;exact ⟨rfl,by rw [<-HEq.out];exact ⟨rfl,S5.away.next hA⟩⟩)
  ·go_simp
   refine hK _ _ (by go_keep) (fun hHeld2=>?_);refine wpAnyH_ready (rs:=[6]) (by kernel_rfl) (by simp) ?_;refine AllReadyH.cons rfl (fun K hK=>?_) AllReadyH.nil;go_simp;go_wp2_with (go_at_call 193;refine (HC6.out _ (S5.at_.later (by go_grown))).mono ?_;intro e w9 hp;replace hp:=PT.from S5.out (by go_grown) hp;obtain ⟨rfl,hA⟩:=hp;exact ⟨rfl,by rw [<-HEq.out];exact ⟨rfl,S5.away.next hA⟩⟩)
 |ok r6=>
 obtain ⟨t6,m6⟩:=r6;rw [hr] at HC6 hR0 hs6;have HM6:=hid (show m5<m6/\m6<=s.ws.length from hs6);have HEq:=hid (show picks s.ws s.e g v m6 o (l1++[t6])=R0 from by rw [HL1.out];exact hR0);have HLen:=hid (show l1.length<=1048576 from by rw [HL1.out];simp);clear hR0 hr hs6;go_enter Tryz.func156,Tryz.ntmps156
 go_upto_region 1 with fail
 generalize hWa:World.alloc w _=w1;have hba:Below w.heap.size w w1:=hWa▸(qb _ _).alloc (qa _) _;have X1:=hid (show Bx s w1 w.heap.size (wcells v) from by rw [<-hWa];exact Bx.new S0.out _ _);have S1:=hid (S0.later hba);clear hba hWa;obtain ⟨x1c0,x1c1,x1c2⟩:=X1.box.rv v rfl;have x1cf:=X1.box.fz;have x1cl:=X1.box.lt;go_upto_region 10 with (first
  |(go_at_call 193;refine (HC.out _ (S1.at_.later (by go_grown))).mono ?_;intro e w2 hp;replace hp:=PT.from S1.out (by go_grown) hp;obtain ⟨y2,G2,rfl,hO,hG,hP,hA⟩:=hp;have S2:=hid (S1.moved hA hP);have T2:=hid (Tm.new S1.out hO hG (by simp) hA.size (by simp));skip;clear hO hG hP hA;simp only [TV.val,TV.cells])
  |(go_at_call 127;refine (made_calls' _ _ _ _ _).mono ?_;rintro e w3 ⟨rfl,hb⟩;have HK3:=hid (kids_one T2.out S1.box.lt hb);have hb:=Start.then S2.out hb (by go_grown);have S3:=hid (S2.later hb);obtain ⟨u3c0,u3c1,u3c2,u3c3,u3c4,u3c5,u3c6,u3c7,u3c8⟩:=S3.box.r9 (.int .i64 0) (.string ⟨#[]⟩) (.int .i64 0) (.slice none 0 0) (.slice none 0 0) (.slice none 0 0) (.slice none 0 0) (.bool false) (.int .i64 (v.at_:Int)) rfl;have u3cf:=S3.box.fz;have u3cl:=S3.box.lt;clear hb;simp only [nodeV,TV.val,TV.cells]))
 generalize hWs:World.setCell _ _ _=w4;obtain ⟨hK,hF⟩:=HK3.out;have hN:=Nb.lay (k:=5) S3.out L0.out hK hF (.inl (fun A n c e=>by cases e;exact qa _));have hS:=S3.lay (nodeV 5 0 ⟨#[]⟩ (some ⟨w2.heap.size,0,none⟩) 1 1);rw [show sixAt w3 ub 0 (nodeV 5 0 ⟨#[]⟩ (some ⟨w2.heap.size,0,none⟩) 1 1)=w4 from hWs] at hN hS;have S4:=hid (show Start s w0 m2 o (unitCs (nodeV 5 0 ⟨#[]⟩ (some ⟨w2.heap.size,0,none⟩) l1.length 1) v.at_) ub w4 from by rw [HL1.out];exact hS);have N4:=hid (show Nb s ub (ub+1) 5 (.slice (some ⟨w2.heap.size,0,none⟩) l1.length 1) l1 w4 from by rw [HL1.out];exact hN);clear hK hF hN hS hWs u3c0 u3c1 u3c2 u3c3 u3c4 u3c5 u3c6 u3c7 u3c8 u3cf u3cl x1c0 x1c1 x1c2 x1cf x1cl X1;have j0:(0:Int)<=(l1.length:Int):=by omega
 have j1:(l1.length:Int)<(l1.length:Int)+1:=by omega
 go_upto_region 11 with (go_at_call 194;refine (HT.out _ (S4.at_.later (by go_grown))).mono ?_;intro e w5 hp;have hA0:=hp.2.2;replace hp:=PN.from S4.out (by go_grown) hp;obtain ⟨rfl,hP,hA⟩:=hp;have S5:=hid (S4.moved hA hP);have N5:=hid (N4.moved hA0);obtain ⟨u5c0,u5c1,u5c2,u5c3,u5c4,u5c5,u5c6,u5c7,u5c8⟩:=S5.box.r9 (.int .i64 5) (.string ⟨#[]⟩) (.int .i64 0) (.slice none 0 0) (.slice none 0 0) (.slice (some ⟨w2.heap.size,0,none⟩) l1.length 1) (.slice none 0 0) (.bool false) (.int .i64 (v.at_:Int)) rfl;have u5cf:=S5.box.fz;have u5cl:=S5.box.lt;clear hP hA hA0)
 go_cut [] from 6 (fun wq=>∃ (n1:Nat) (A1:Option Addr) (cap1:Nat) (l2:List T),PK s w0 o ub R0 (f+1) v n1 A1 cap1 l2 wq)
 case first=>
  obtain ⟨ys,Fs,hk,hf,ho⟩:=N5.rows;have HK5:=hid hk;have HF5:=hid hf;have HO5:=hid ho;clear hk hf ho
  go_region_law (first
   |(refine step_append_lo _ (by rfl) _ _ 26 (by rfl) 28 m0 _ 6 104 Tryz.underlying26 hm0 hmz0 hmz1 hmz2 (by rfl) (by decide) (ub+1) (by have:=N6.box.lt;have:=T6.hi_;have:=T6.le;have:=S5.box.lt;simp;omega) (.slice (some ⟨w2.heap.size,0,none⟩) l1.length 1) l1.length _ (by rfl) (HK6.row.alloc _) N6.room ⟨w6.heap.size,0,none⟩ 1 1 (TV.cells zeroY).toList (by rfl) (by rfl) (World.news_of_block (heap_new _ _)) (tv_one zeroY) (by decide) (by have:=HLen.out;unfold maxLen;omega) (by have:=HLen.out;omega) ?_;intro g8 cap w7 hown hgrow hat hlt hgl hbl;have HWA:=hid ((qb w6.heap.size w6).alloc (qa _) (.cells (TV.cells zeroY) 28));have hS8:=(S6.later HWA.out).under L0.out hbl;obtain ⟨u7c0,u7c1,u7c2,u7c3,u7c4,u7c5,u7c6,u7c7,u7c8⟩:=hS8.box.r9 (.int .i64 5) (.string ⟨#[]⟩) (.int .i64 0) (.slice none 0 0) (.slice none 0 0) (.slice (some ⟨w2.heap.size,0,none⟩) l1.length 1) (.slice none 0 0) (.bool false) (.int .i64 (v.at_:Int)) rfl;have u7cf:=hS8.box.fz;have u7cl:=hS8.box.lt;obtain ⟨hz8,zf⟩:=zero_at (z:=TV.cells zeroY) rfl HK6.side.ly hown;have z0:=hz8 0 (.int .i64 0) rfl;have z1:=hz8 1 (.string ⟨#[]⟩) rfl;have z2:=hz8 2 (.int .i64 0) rfl;have z3:=hz8 3 (.slice none 0 0) rfl;have z4:=hz8 4 (.slice none 0 0) rfl;have z5:=hz8 5 (.slice none 0 0) rfl;rw [Nat.add_zero] at z0;have ne1:¬g8=ub:=(by omega);have ne2:¬ub=g8:=(by omega);clear hS8 hz8)
   |(refine step_append_lo _ (by rfl) _ _ 26 (by rfl) 28 m0 _ 6 104 Tryz.underlying26 hm0 hmz0 hmz1 hmz2 (by rfl) (by decide) (ub+1) (by have:=N6.box.lt;have:=T6.hi_;have:=T6.le;have:=S5.box.lt;simp;omega) (.slice (some ⟨w2.heap.size,0,none⟩) l1.length 1) l1.length _ (by rfl) (HK6.row) N6.room ⟨w5.heap.size,0,none⟩ 1 1 (TV.cells zeroY).toList (by rfl) (by rfl) (HNW.out) (tv_one zeroY) (by decide) (by have:=HLen.out;unfold maxLen;omega) (by have:=HLen.out;omega) ?_;intro g8 cap w7 hown hgrow hat hlt hgl hbl;have HWA:=hid (qb w6.heap.size w6);have hS8:=(S6.later HWA.out).under L0.out hbl;obtain ⟨u7c0,u7c1,u7c2,u7c3,u7c4,u7c5,u7c6,u7c7,u7c8⟩:=hS8.box.r9 (.int .i64 5) (.string ⟨#[]⟩) (.int .i64 0) (.slice none 0 0) (.slice none 0 0) (.slice (some ⟨w2.heap.size,0,none⟩) l1.length 1) (.slice none 0 0) (.bool false) (.int .i64 (v.at_:Int)) rfl;have u7cf:=hS8.box.fz;have u7cl:=hS8.box.lt;obtain ⟨hz8,zf⟩:=zero_at (z:=TV.cells zeroY) rfl HK6.side.ly hown;have z0:=hz8 0 (.int .i64 0) rfl;have z1:=hz8 1 (.string ⟨#[]⟩) rfl;have z2:=hz8 2 (.int .i64 0) rfl;have z3:=hz8 3 (.slice none 0 0) rfl;have z4:=hz8 4 (.slice none 0 0) rfl;have z5:=hz8 5 (.slice none 0 0) rfl;rw [Nat.add_zero] at z0;have ne1:¬g8=ub:=(by omega);have ne2:¬ub=g8:=(by omega);clear hS8 hz8)
   |(go_simp;go_at_call 193;refine (HC6.out _ (S5.at_.later (by go_grown))).mono ?_;intro e w6 hp;have hp0:=hp;replace hp:=PT.from S5.out (by go_grown) hp;obtain ⟨y6,G6,rfl,hO,hG,hP,hA⟩:=hp;obtain ⟨_,_,_,_,_,_,hA0⟩:=hp0;(try have HNW:=hid (news_away (Z:=TV.cells zeroY) (ty:=28) (W:=w5) S5.at_.lt hA0 (by exact heap_new _ _)));have S6:=hid (S5.moved hA hP);have HSz6:=hid hA.size;have T6:=hid (Tm.new S5.out hO hG (by simp) hA.size (by simp));have N6:=hid (N5.moved hA);have HK6:=hid (HK5.away keeper_own hA (fun b hb'=>⟨(From.lt0 HF5.out b hb').2,by have:=(From.lt0 HF5.out b hb').1;have:=N5.pb;omega⟩));obtain ⟨u6c0,u6c1,u6c2,u6c3,u6c4,u6c5,u6c6,u6c7,u6c8⟩:=S6.box.r9 (.int .i64 5) (.string ⟨#[]⟩) (.int .i64 0) (.slice none 0 0) (.slice none 0 0) (.slice (some ⟨w2.heap.size,0,none⟩) l1.length 1) (.slice none 0 0) (.bool false) (.int .i64 (v.at_:Int)) rfl;have u6cf:=S6.box.fz;have u6cl:=S6.box.lt;clear hO hG hP hA hA0;simp only [TV.val,TV.cells]))
  all_goals
   obtain ⟨hN,hS⟩:=Nb.put S6.out L0.out HK6.out HF5.out T6.out (by have:=S5.box.lt;omega) HWA.out rfl hown hgrow hat hlt hgl hbl;have hp:=PK.of (R0:=R0) (f:=f+1) hS hN (by simp) ⟨g,by have:=HG.out;omega,by have:=HN.out;have:=HM6.out;have:=HM5.out;have:=HM2.out;unfold need at*;omega,HEq.out⟩ (by have:=HL1.out;have:=HM6.out;have:=HM5.out;have:=HM2.out;refine ⟨HM6.out.2,?_⟩;rw [HL1.out];simp;omega);have ha:=hp;unfold sixAt at ha;have HPa:=hid ha;rw [<-set_comm2 _ ne2] at hp;unfold sixAt at hp;have HPb:=hid hp;clear ha hp hN hS hown hgrow hat hlt hgl hbl z0 z1 z2 z3 z4 z5 zf;go_wp2_with fail
   go_meet
   case rel=>first|(with_reducible exact ⟨m6,some ⟨g8,0,none⟩,cap,l1++[t6],HPa.out⟩)|(with_reducible exact ⟨m6,some ⟨g8,0,none⟩,cap,l1++[t6],HPb.out⟩)
 case rest=>
 obtain ⟨n0,A0,cap0,l0,hpk0⟩:=hcut;have HPK:=hid hpk0;clear hpk0;go_wp2_with fail
 go_loopw [] (fun w10=>∃ (n1:Nat) (A1:Option Addr) (cap1:Nat) (l:List T),PK s w0 o ub R0 (f+1) v n1 A1 cap1 l w10) (fun wr=>s.ws.length-nextOf s.pb wr)
 case atStart=>exact ⟨_,_,_,_,HPK.out⟩
 case round=>
  obtain ⟨w10,hw10⟩:∃ w10,w10=wr:=⟨_,rfl⟩;subst hw10;obtain ⟨n1,A1,cap1,l,hpk⟩:=hrel;obtain ⟨g1,hg1,hn1,heq⟩:=hpk.eq;have S10:=hid hpk.start;have N10:=hid hpk.nb;have HLen1:=hid (And.intro hpk.len (show s.ws.length<=1048576 from HOk.len));have HNX:=hid hpk.start.at_.nextOf;have HG1:=hid (And.intro hg1 hn1);clear hpk;cases g1 with
  |zero=>unfold need at hn1;omega
  |succ g1=>
   clear hg1 hn1;rw [picks] at heq;cases h4:sees s.ws n1 [111,114,46] with
   |false=>
    have H4:=hid (fun W h=>sees_is (o:=o) h4 W h);rw [if_neg (by rw [h4];simp)] at heq;have HTE:=hid (fun W (h:PAt W s n1 o)=>takes_calls s n1 o [101,110,100,46] W h);clear h4;cases hr:takes s.ws s.e n1 [101,110,100,46] with
    |bad c p=>
     rw [hr] at HTE heq;have HEq2:=hid heq;clear heq hr;go_wp2_with (first
      |(go_at_call 122;refine (H4.out _ (S10.at_.later (by go_grown))).mono ?_;rintro e w11 ⟨rfl,hb⟩;have hb0:=hb;have hb:=Start.then S10.out hb (by go_grown);have S11:=hid (S10.later hb);have N11:=hid (N10.later hb);clear hb hb0)
      |(go_at_call 194;refine (HTE.out _ (S11.at_.later (by go_grown))).mono ?_;intro e w9 hp;replace hp:=PN.from S11.out (by go_grown) hp;obtain ⟨rfl,hA⟩:=hp))
     all_goals exact ⟨rfl,by rw [<-HEq2.out];exact ⟨rfl,S11.away.next hA⟩⟩
    |ok m7=>
     rw [hr] at HTE heq;have HEq2:=hid heq;clear heq hr;go_wp2_with (first
      |(go_at_call 122;refine (H4.out _ (S10.at_.later (by go_grown))).mono ?_;rintro e w11 ⟨rfl,hb⟩;have hb0:=hb;have hb:=Start.then S10.out hb (by go_grown);have S11:=hid (S10.later hb);have N11:=hid (N10.later hb);clear hb hb0)
      |(go_at_call 194;refine (HTE.out _ (S11.at_.later (by go_grown))).mono ?_;intro e w12 hp;have hA0:=hp.2.2;replace hp:=PN.from S11.out (by go_grown) hp;obtain ⟨rfl,hP,hA⟩:=hp;have S12:=hid (S11.moved hA hP);have N12:=hid (N11.moved hA0);clear hP hA hA0))
     all_goals
      obtain ⟨G,T⟩:=N12.term (by decide) (by have:=HLen1.out;omega);refine bodyPost_ret (v:=.tuple #[]) (by simp [results,Tryz.results156,go_sem]) rfl ?_;rw [<-HEq2.out];exact PB.ends S12.out T (qa _)
   |true=>
    have H4:=hid (fun W h=>sees_is (o:=o) h4 W h);have hlt1:=sees_lt h4;rw [if_pos h4] at heq;have hs8:=(sound (fun i w h=>(HOk.word i w h).1) g1).noun (n1+1) o (by have:=HG1.out;unfold need at*;omega);have HC8:=hid (fun W (h:PAt W s (n1+1) o)=>HNN.out g1 (by have:=HG1.out;omega) (n1+1) o W h HDp.out (by have:=HG1.out;unfold need at*;omega));unfold ptr at HC8;have HW1:=hid (show wrap64 ((n1:Int)+1)=((n1+1:Nat):Int) from by have:=HLen1.out;unfold wrap64;omega);have HLT1:=hid hlt1;clear h4 hlt1;cases hr:noun s.ws s.e g1 (n1+1) o with
    |bad c p=>
     rw [hr] at HC8 heq;have HEq2:=hid heq;clear heq hr hs8;go_upto_region 13 with (first
      |(go_at_call 122;refine (H4.out _ (S10.at_.later (by go_grown))).mono ?_;rintro e w11 ⟨rfl,hb⟩;have hb0:=hb;have hb:=Start.then S10.out hb (by go_grown);have S11:=hid (S10.later hb);have N11:=hid (N10.later hb);have p11c1:=S11.at_.c1;have p11cf:=S11.at_.fz;clear hb hb0))
     go_upto_region 14 with fail
     generalize hWn:World.setCell w11 _ _=w12;have hAn:Away s.pb w11.heap.size w11 w12:=hWn▸(Away.refl _ _ _).setCell (q:=⟨s.pb,1,none⟩) (.inl rfl) _;have hPn:=S11.at_.next (n1+1) (v:=.int .i64 (wrap64 ((n1:Int)+1))) (by rw [HW1.out]);rw [hWn] at hPn;have S12:=hid (S11.moved hAn hPn);have N12:=hid (N11.moved hAn);clear hAn hPn hWn;obtain ⟨u12c0,u12c1,u12c2,u12c3,u12c4,u12c5,u12c6,u12c7,u12c8⟩:=S12.box.r9 (.int .i64 5) (.string ⟨#[]⟩) (.int .i64 0) (.slice none 0 0) (.slice none 0 0) (.slice A1 l.length cap1) (.slice none 0 0) (.bool false) (.int .i64 (v.at_:Int)) rfl;have u12cf:=S12.box.fz;have u12cl:=S12.box.lt;refine wp_region_held_drew (S:=fun w'=>w'.cell? ⟨ub,5,none⟩=some (.slice A1 l.length cap1)) (by kernel_rfl) (by exact u12c5) (fun hHeld=>?_);refine wpAnyH_take (i:=0) (v:=?_) rfl (by kernel_rfl) (by kernel_rfl) (by kernel_rfl) (fun _ _ _ h=>h) (Or.inl ⟨by rfl,?_⟩) (by assumption) ?_;rotate_left
     ·intro w hSw
      (try dsimp only at hSw)
      go_simp;try with_reducible rfl
     try simp only [Act.put,qk,qll,qm]
     refine wpAnyH_take (i:=1) (v:=?_) rfl (by kernel_rfl) (by kernel_rfl) (by kernel_rfl) (fun _ _ _ h=>h) (Or.inl ⟨by rfl,?_⟩) (by assumption) ?_;rotate_left
     ·intro w hSw
      (try dsimp only at hSw)
      go_simp;try with_reducible rfl
     try simp only [Act.put,qk,qll,qm]
     refine wpAnyH_take (i:=2) (v:=?_) rfl (by kernel_rfl) (by kernel_rfl) (by kernel_rfl) (fun _ _ _ h=>h) (Or.inl ⟨by rfl,?_⟩) (by assumption) ?_;rotate_left
     ·intro w hSw
      (try dsimp only at hSw)
      go_simp;try with_reducible rfl
     try simp only [Act.put,qk,qll,qm]
     refine wpAnyH_take (i:=3) (v:=?_) rfl (by kernel_rfl) (by kernel_rfl) (by kernel_rfl) (fun _ _ _ h=>h) (Or.inl ⟨by rfl,?_⟩) (by assumption) ?_;rotate_left
     ·intro w hSw
      (try dsimp only at hSw)
      go_simp;try with_reducible rfl
     try simp only [Act.put,qk,qll,qm]
     refine wpAnyH_take (i:=4) (v:=?_) rfl (by kernel_rfl) (by kernel_rfl) (by kernel_rfl) (fun _ _ _ h=>h) (Or.inl ⟨by rfl,?_⟩) (by assumption) ?_;rotate_left
     ·intro w hSw
      (try dsimp only at hSw)
      go_simp;try with_reducible rfl
     try simp only [Act.put,qk,qll,qm]
     refine wpAnyH_take (i:=5) (v:=?_) rfl (by kernel_rfl) (by kernel_rfl) (by kernel_rfl) (fun _ _ _ h=>h) (Or.inl ⟨by rfl,?_⟩) (by assumption) ?_;rotate_left
     ·intro w hSw
      (try dsimp only at hSw)
      go_simp;try with_reducible rfl
     try simp only [Act.put,qk,qll,qm]
     refine wpAnyH_take (i:=7) (v:=?_) rfl (by kernel_rfl) (by kernel_rfl) (by kernel_rfl) (fun _ _ _ h=>h) (Or.inl ⟨by rfl,?_⟩) (by assumption) ?_;rotate_left
     ·intro w hSw
      (try dsimp only at hSw)
      go_simp;try with_reducible rfl
     try simp only [Act.put,qk,qll,qm]
     refine wpAnyH_ready (rs:=[6,8]) (by kernel_rfl) (by simp) ?_;refine AllReadyH.cons rfl (fun K hK=>?_) (AllReadyH.cons rfl (fun K hK=>?_) AllReadyH.nil)
     ·go_simp
      go_wp2_with (go_at_call 193;refine (HC8.out _ (S12.at_.later (by go_grown))).mono ?_;intro e w9 hp;replace hp:=PT.from S12.out (by go_grown) hp;obtain ⟨rfl,hA⟩:=hp;exact ⟨rfl,by rw [<-HEq2.out];exact ⟨rfl,S12.away.next hA⟩⟩)
     ·go_simp
      refine hK _ _ (by go_keep) (fun hHeld2=>?_);refine wpAnyH_ready (rs:=[6]) (by kernel_rfl) (by simp) ?_;refine AllReadyH.cons rfl (fun K hK=>?_) AllReadyH.nil;go_simp;go_wp2_with (go_at_call 193;refine (HC8.out _ (S12.at_.later (by go_grown))).mono ?_;intro e w9 hp;replace hp:=PT.from S12.out (by go_grown) hp;obtain ⟨rfl,hA⟩:=hp;exact ⟨rfl,by rw [<-HEq2.out];exact ⟨rfl,S12.away.next hA⟩⟩)
    |ok r=>
     obtain ⟨t8,m8⟩:=r;rw [hr] at HC8 heq hs8;have HM8:=hid (show n1+1<m8/\m8<=s.ws.length from hs8);have HEq2:=hid heq;have j0:(0:Int)<=(l.length:Int):=by omega
     have j1:(l.length:Int)<(l.length:Int)+1:=by omega
     clear heq hr hs8;go_upto_region 13 with (first
      |(go_at_call 122;refine (H4.out _ (S10.at_.later (by go_grown))).mono ?_;rintro e w11 ⟨rfl,hb⟩;have hb0:=hb;have hb:=Start.then S10.out hb (by go_grown);have S11:=hid (S10.later hb);have N11:=hid (N10.later hb);have p11c1:=S11.at_.c1;have p11cf:=S11.at_.fz;clear hb hb0))
     go_upto_region 14 with fail
     generalize hWn:World.setCell w11 _ _=w12;have hAn:Away s.pb w11.heap.size w11 w12:=hWn▸(Away.refl _ _ _).setCell (q:=⟨s.pb,1,none⟩) (.inl rfl) _;have hPn:=S11.at_.next (n1+1) (v:=.int .i64 (wrap64 ((n1:Int)+1))) (by rw [HW1.out]);rw [hWn] at hPn;have S12:=hid (S11.moved hAn hPn);have N12:=hid (N11.moved hAn);clear hAn hPn hWn;obtain ⟨u12c0,u12c1,u12c2,u12c3,u12c4,u12c5,u12c6,u12c7,u12c8⟩:=S12.box.r9 (.int .i64 5) (.string ⟨#[]⟩) (.int .i64 0) (.slice none 0 0) (.slice none 0 0) (.slice A1 l.length cap1) (.slice none 0 0) (.bool false) (.int .i64 (v.at_:Int)) rfl;have u12cf:=S12.box.fz;have u12cl:=S12.box.lt;obtain ⟨ys,Fs,hk,hf,ho⟩:=N12.rows;have HK12:=hid hk;have HF12:=hid hf;have HO12:=hid ho;clear hk hf ho
     go_region_law (first
      |(refine step_append_lo _ (by rfl) _ _ 26 (by rfl) 28 m0 _ 6 104 Tryz.underlying26 hm0 hmz0 hmz1 hmz2 (by rfl) (by decide) (ub+1) (by have:=N13.box.lt;have:=T13.hi_;have:=T13.le;have:=S12.box.lt;simp;omega) (.slice A1 l.length cap1) l.length _ (by rfl) (HK13.row.alloc _) N13.room ⟨w13.heap.size,0,none⟩ 1 1 (TV.cells zeroY).toList (by rfl) (by rfl) (World.news_of_block (heap_new _ _)) (tv_one zeroY) (by decide) (by have:=HLen1.out;unfold maxLen;omega) (by have:=HLen1.out;omega) ?_;intro g8 cap w14 hown hgrow hat hlt hgl hbl;have HWA:=hid ((qb w13.heap.size w13).alloc (qa _) (.cells (TV.cells zeroY) 28));have hS8:=(S13.later HWA.out).under L0.out hbl;obtain ⟨u14c0,u14c1,u14c2,u14c3,u14c4,u14c5,u14c6,u14c7,u14c8⟩:=hS8.box.r9 (.int .i64 5) (.string ⟨#[]⟩) (.int .i64 0) (.slice none 0 0) (.slice none 0 0) (.slice A1 l.length cap1) (.slice none 0 0) (.bool false) (.int .i64 (v.at_:Int)) rfl;have u14cf:=hS8.box.fz;have u14cl:=hS8.box.lt;obtain ⟨hz8,zf⟩:=zero_at (z:=TV.cells zeroY) rfl HK13.side.ly hown;have z0:=hz8 0 (.int .i64 0) rfl;have z1:=hz8 1 (.string ⟨#[]⟩) rfl;have z2:=hz8 2 (.int .i64 0) rfl;have z3:=hz8 3 (.slice none 0 0) rfl;have z4:=hz8 4 (.slice none 0 0) rfl;have z5:=hz8 5 (.slice none 0 0) rfl;rw [Nat.add_zero] at z0;have ne1:¬g8=ub:=(by omega);have ne2:¬ub=g8:=(by omega);clear hS8 hz8)
      |(refine step_append_lo _ (by rfl) _ _ 26 (by rfl) 28 m0 _ 6 104 Tryz.underlying26 hm0 hmz0 hmz1 hmz2 (by rfl) (by decide) (ub+1) (by have:=N13.box.lt;have:=T13.hi_;have:=T13.le;have:=S12.box.lt;simp;omega) (.slice A1 l.length cap1) l.length _ (by rfl) (HK13.row) N13.room ⟨w12.heap.size,0,none⟩ 1 1 (TV.cells zeroY).toList (by rfl) (by rfl) (HNW.out) (tv_one zeroY) (by decide) (by have:=HLen1.out;unfold maxLen;omega) (by have:=HLen1.out;omega) ?_;intro g8 cap w14 hown hgrow hat hlt hgl hbl;have HWA:=hid (qb w13.heap.size w13);have hS8:=(S13.later HWA.out).under L0.out hbl;obtain ⟨u14c0,u14c1,u14c2,u14c3,u14c4,u14c5,u14c6,u14c7,u14c8⟩:=hS8.box.r9 (.int .i64 5) (.string ⟨#[]⟩) (.int .i64 0) (.slice none 0 0) (.slice none 0 0) (.slice A1 l.length cap1) (.slice none 0 0) (.bool false) (.int .i64 (v.at_:Int)) rfl;have u14cf:=hS8.box.fz;have u14cl:=hS8.box.lt;obtain ⟨hz8,zf⟩:=zero_at (z:=TV.cells zeroY) rfl HK13.side.ly hown;have z0:=hz8 0 (.int .i64 0) rfl;have z1:=hz8 1 (.string ⟨#[]⟩) rfl;have z2:=hz8 2 (.int .i64 0) rfl;have z3:=hz8 3 (.slice none 0 0) rfl;have z4:=hz8 4 (.slice none 0 0) rfl;have z5:=hz8 5 (.slice none 0 0) rfl;rw [Nat.add_zero] at z0;have ne1:¬g8=ub:=(by omega);have ne2:¬ub=g8:=(by omega);clear hS8 hz8)
      |(go_simp;go_at_call 193;refine (HC8.out _ (S12.at_.later (by go_grown))).mono ?_;intro e w13 hp;have hp0:=hp;replace hp:=PT.from S12.out (by go_grown) hp;obtain ⟨y13,G13,rfl,hO,hG,hP,hA⟩:=hp;obtain ⟨_,_,_,_,_,_,hA0⟩:=hp0;(try have HNW:=hid (news_away (Z:=TV.cells zeroY) (ty:=28) (W:=w12) S12.at_.lt hA0 (by exact heap_new _ _)));have S13:=hid (S12.moved hA hP);have HSz13:=hid hA.size;have T13:=hid (Tm.new S12.out hO hG (by simp) hA.size (by simp));have N13:=hid (N12.moved hA);have HK13:=hid (HK12.away keeper_own hA (fun b hb'=>⟨(From.lt0 HF12.out b hb').2,by have:=(From.lt0 HF12.out b hb').1;have:=N12.pb;omega⟩));obtain ⟨u13c0,u13c1,u13c2,u13c3,u13c4,u13c5,u13c6,u13c7,u13c8⟩:=S13.box.r9 (.int .i64 5) (.string ⟨#[]⟩) (.int .i64 0) (.slice none 0 0) (.slice none 0 0) (.slice A1 l.length cap1) (.slice none 0 0) (.bool false) (.int .i64 (v.at_:Int)) rfl;have u13cf:=S13.box.fz;have u13cl:=S13.box.lt;clear hO hG hP hA hA0;simp only [TV.val,TV.cells]))
     all_goals
      obtain ⟨hN,hS⟩:=Nb.put S13.out L0.out HK13.out HF12.out T13.out (by have:=S12.box.lt;omega) HWA.out rfl hown hgrow hat hlt hgl hbl;have hp:=PK.of (R0:=R0) (f:=f+1) hS hN (by simp) ⟨g1,by have:=HG1.out;omega,by have:=HG1.out;have:=HM8.out;unfold need at*;omega,HEq2.out⟩ (by have:=HLen1.out;have:=HM8.out;omega);have ha:=hp;unfold sixAt at ha;have HPa:=hid ha;rw [<-set_comm2 _ ne2] at hp;unfold sixAt at hp;have HPb:=hid hp;clear ha hp hN hS hown hgrow hat hlt hgl hbl z0 z1 z2 z3 z4 z5 zf
      (try go_wp2_with fail)
      go_roundw
      case rel=>first|(with_reducible exact ⟨m8,some ⟨g8,0,none⟩,cap,l++[t8],HPa.out⟩)|(with_reducible exact ⟨m8,some ⟨g8,0,none⟩,cap,l++[t8],HPb.out⟩)
      case measure=>
       first
        |(rw [HPa.start.at_.nextOf,HNX.out];have:=HM8.out;have:=HLT1.out;omega)
        |(rw [HPb.start.at_.nextOf,HNX.out];have:=HM8.out;have:=HLT1.out;omega)
end Pz
end Go.Proofs.YtimcmghhbdfjfaaGreatDoor
