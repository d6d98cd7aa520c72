/- Package parse: within, a definition. -/
import Derived.Test.YtpfkhdlnjefikaaGreatDoorQPwAX
set_option linter.unusedVariables false
set_option linter.unusedSimpArgs false
namespace Go.Proofs.YtpfkhdlnjefikaaGreatDoor
open Go.RowKit
namespace Pz
set_option maxRecDepth 100000 in
set_option maxHeartbeats 4000000 in
theorem def_step {s:PS} {f g n o ub:Nat} {v:W} {w0 w:World} (hbd:CBody s f) (hg:g<=f) (hS:Start s w0 n o (unitCs zeroY v.at_) ub w) (hL:Lo s w0 ub (ub+1)) (hD:Deep o) (hnl:n<=s.ws.length) (hn:need s.ws n 9<=g+1) (h1:v.text≠[40]) (h2:v.text≠[112,105,99,107,46]):
 Calls Tryz.prog 172 #[ptr s,wordV v,.pointer (some ⟨ub,0,none⟩)] w (PB 65 s w0 ub o (within s.ws s.e (g+1) v n o)):=by
 obtain ⟨m0,hm0,hmz0,hmz1,hmz2⟩:=info_parts info_term1
 obtain ⟨R0,hR0⟩:∃ R0,within s.ws s.e (g+1) v n o=R0:=⟨_,rfl⟩
 rw [hR0]
 have HOk:=hid hS.at_.ok
 have HG:=hid hg
 have HN:=hid hn
 have HNL:=hid hnl
 have HDp:=hid hD
 have S0:=hid hS
 have L0:=hid hL
 unfold ptr wordV
 have HBD:=hid hbd
 rw [within,if_neg h1,if_neg h2] at hR0
 have d1:((bytes v.text).toList==[40])=false:=by rw [text_beq];simp [h1]
 have d2:((bytes v.text).toList==[112,105,99,107,46])=false:=by rw [text_beq];simp [h2]
 clear h1 h2 hbd hg hS hL hD hnl hn
 have hs2:=(sound (fun i w h=>(HOk.out.word i w h).1) g).body n o HNL.out (by have:=HN.out;unfold need at*;omega)
 have HC:=hid (fun W (h:PAt W s n o)=>HBD.out g HG.out n o W h HDp.out HNL.out (by have:=HN.out;unfold need at*;omega))
 unfold ptr at HC
 cases hr:body s.ws s.e g n o with
 |bad c p=>
  rw [hr] at HC hR0
  have HEq:=hid hR0
  clear hR0 hr hs2
  go_enter Tryz.func172,Tryz.ntmps172
  go_upto_region 1 with fail
  generalize hWa:World.alloc w _=w1
  have hba:Below w.heap.size w w1:=hWa▸(Below.refl _ _).alloc (Nat.le_refl _) _
  have X1:=hid (show Bx s w1 w.heap.size (wcells v) from by rw [<-hWa];exact Bx.new S0.out _ _)
  have S1:=hid (S0.out.later hba)
  clear hba hWa
  obtain ⟨x1c0,x1c1,x1c2⟩:=X1.out.box.rv v rfl;have x1cf:=X1.out.box.fz;have x1cl:=X1.out.box.lt
  go_wp2_with ((go_at_call 205;refine (HC.out _ (S1.out.at_.later (by go_grown))).mono ?_;intro e w9 hp;replace hp:=PT.from S1.out (by go_grown) hp;obtain ⟨rfl,hA⟩:=hp))
  all_goals exact ⟨rfl,by rw [<-HEq.out];exact ⟨rfl,S1.out.away.next hA⟩⟩
 |ok r2=>
 obtain ⟨t2,m2⟩:=r2
 rw [hr] at HC hR0 hs2
 have HM2:=hid (show n<=m2/\m2<=s.ws.length from hs2)
 simp only [R.andThen] at hR0
 clear hr hs2
 have HT:=hid (fun W (h:PAt W s m2 o)=>takes_calls s m2 o [125,125] W h)
 by_cases h3:v.text=[123,123,41,100]
 ·rw [if_pos h3] at hR0
  have d3:((bytes v.text).toList==[123,123,41,100])=true:=by rw [text_beq];simp [h3]
  clear h3
  have HR0:=hid hR0
  clear hR0
  go_enter Tryz.func172,Tryz.ntmps172
  go_upto_region 1 with fail
  generalize hWa:World.alloc w _=w1
  have hba:Below w.heap.size w w1:=hWa▸(Below.refl _ _).alloc (Nat.le_refl _) _
  have X1:=hid (show Bx s w1 w.heap.size (wcells v) from by rw [<-hWa];exact Bx.new S0.out _ _)
  have S1:=hid (S0.out.later hba)
  clear hba hWa
  obtain ⟨x1c0,x1c1,x1c2⟩:=X1.out.box.rv v rfl;have x1cf:=X1.out.box.fz;have x1cl:=X1.out.box.lt
  go_upto_region 3 with (first
   |(with_reducible refine wpList_buildSlice (by rfl) 32 34 1 _ (by rfl) y2.cells m0 _ (by kernel_rfl) hm0 hmz0 (by rw [hmz1];decide) (by rw [hmz1];decide) (by rw [hmz1];kernel_rfl) ?_;generalize hWb:World.alloc w2 _=w3;have hbb:Below w2.heap.size w2 w3:=hWb▸(Below.refl _ _).alloc (Nat.le_refl _) _;have S3:=hid (S2.out.later hbb);have X3:=hid (X2.out.later hbb);have HWB:=hid hWb;clear hWb hbb;obtain ⟨u3c0,u3c1,u3c2,u3c3,u3c4,u3c5,u3c6,u3c7,u3c8⟩:=S3.out.box.r9 (.int .i64 0) (.string ⟨#[]⟩) (.int .i64 0) (.slice none 0 0) (.slice none 0 0) (.slice none 0 0) (.slice none 0 0) (.bool false) (.int .i64 (v.at_:Int)) rfl;have u3cf:=S3.out.box.fz;have u3cl:=S3.out.box.lt)
   |(go_at_call 205;refine (HC.out _ (S1.out.at_.later (by go_grown))).mono ?_;intro e w2 hp;replace hp:=PT.from S1.out (by go_grown) hp;obtain ⟨y2,G2,rfl,hO,hG,hP,hA⟩:=hp;have S2:=hid (S1.out.moved hA hP);have T2:=hid (Tm.new S1.out hO hG (by simp) hA.size (by simp));have X2:=hid (X1.out.moved hA);clear hO hG hP hA;simp only [TV.val,TV.cells]))
  generalize hWs:World.setCell _ _ _=w5
  have hTg:=T2.out.node1g (k:=23) (nn:=2) (b:=⟨#[]⟩) (by decide) (by omega) (by omega) S2.out.at_.lt
  rw [HWB.out] at hTg
  have hS3:=S3.out.lay (nodeV 23 1 ⟨#[]⟩ (some ⟨w2.heap.size,0,none⟩) 1 1)
  have hT3:=hTg.six (b:=ub) (m:=0) (y':=nodeV 23 1 ⟨#[]⟩ (some ⟨w2.heap.size,0,none⟩) 1 1) (hTg.above S1.out.box.lt)
  have hX3:=X3.out.six (ub:=ub) (m:=0) (y:=nodeV 23 1 ⟨#[]⟩ (some ⟨w2.heap.size,0,none⟩) 1 1) (by have:=S0.out.box.lt;omega)
  rw [show sixAt w3 ub 0 (nodeV 23 1 ⟨#[]⟩ (some ⟨w2.heap.size,0,none⟩) 1 1)=w5 from hWs] at hS3 hT3 hX3
  have S5:=hid hS3
  have T5:=hid hT3
  have X5:=hid hX3
  clear hTg hS3 hT3 hX3 hWs u3c0 u3c1 u3c2 u3c3 u3c4 u3c5 u3c6 u3c7 u3c8 u3cf u3cl
  obtain ⟨x5c0,x5c1,x5c2⟩:=X5.out.box.rv v rfl;have x5cf:=X5.out.box.fz;have x5cl:=X5.out.box.lt
  obtain ⟨u5c0,u5c1,u5c2,u5c3,u5c4,u5c5,u5c6,u5c7,u5c8⟩:=S5.out.box.r9 (.int .i64 23) (.string ⟨#[]⟩) (.int .i64 1) (.slice none 0 0) (.slice none 0 0) (.slice (some ⟨w2.heap.size,0,none⟩) 1 1) (.slice none 0 0) (.bool false) (.int .i64 (v.at_:Int)) rfl;have u5cf:=S5.out.box.fz;have u5cl:=S5.out.box.lt
  go_upto_region 5 with fail
  generalize hWs:World.setCell _ _ _=w6
  have hS3:=S5.out.put 2 (.int .i64 2) (by simp [unitCs])
  have hT3:=T5.out.set (q:=⟨ub,2,none⟩) (T5.out.above S1.out.box.lt) (.int .i64 2)
  rw [hWs] at hS3 hT3
  have S6:=hid (show Start s w0 m2 o (unitCs (nodeV 23 2 ⟨#[]⟩ (some ⟨w2.heap.size,0,none⟩) 1 1) v.at_) ub w6 from by simpa [unitCs,nodeV] using hS3)
  have T6:=hid hT3
  clear hS3 hT3 hWs
  have hR0:=HR0.out
  clear HR0
  cases hr:takes s.ws s.e m2 [125,125] with
  |bad c p=>
   rw [hr] at HT hR0
   have HEq:=hid hR0
   clear hR0 hr
   go_wp2_with (go_at_call 204;refine (HT.out _ (S6.out.at_.later (by go_grown))).mono ?_;intro e w9 hp;replace hp:=PN.from S6.out (by go_grown) hp;obtain ⟨rfl,hA⟩:=hp)
   all_goals exact ⟨rfl,by rw [<-HEq.out];exact ⟨rfl,S6.out.away.next hA⟩⟩
  |ok m3=>
   rw [hr] at HT hR0
   have HEq:=hid hR0
   clear hR0 hr
   go_wp2_with (go_at_call 204;refine (HT.out _ (S6.out.at_.later (by go_grown))).mono ?_;intro e w7 hp;have hA0:=hp.2.2;replace hp:=PN.from S6.out (by go_grown) hp;obtain ⟨rfl,hP,hA⟩:=hp;have S7:=hid (S6.out.moved hA hP);have T7:=hid (T6.out.moved hA);clear hP hA hA0)
   all_goals
    refine bodyPost_ret (v:=.tuple #[]) (by simp [results,Tryz.results172,go_sem]) rfl ?_
    rw [<-HEq.out]
    exact PB.ends S7.out T7.out S1.out.box.lt
 ·rw [if_neg h3] at hR0
  have d3:((bytes v.text).toList==[123,123,41,100])=false:=by rw [text_beq];simp [h3]
  clear h3
  have HR0:=hid hR0
  clear hR0
  go_enter Tryz.func172,Tryz.ntmps172
  go_upto_region 1 with fail
  generalize hWa:World.alloc w _=w1
  have hba:Below w.heap.size w w1:=hWa▸(Below.refl _ _).alloc (Nat.le_refl _) _
  have X1:=hid (show Bx s w1 w.heap.size (wcells v) from by rw [<-hWa];exact Bx.new S0.out _ _)
  have S1:=hid (S0.out.later hba)
  clear hba hWa
  obtain ⟨x1c0,x1c1,x1c2⟩:=X1.out.box.rv v rfl;have x1cf:=X1.out.box.fz;have x1cl:=X1.out.box.lt
  go_upto_region 3 with (first
   |(with_reducible refine wpList_buildSlice (by rfl) 32 34 1 _ (by rfl) y2.cells m0 _ (by kernel_rfl) hm0 hmz0 (by rw [hmz1];decide) (by rw [hmz1];decide) (by rw [hmz1];kernel_rfl) ?_;generalize hWb:World.alloc w2 _=w3;have hbb:Below w2.heap.size w2 w3:=hWb▸(Below.refl _ _).alloc (Nat.le_refl _) _;have S3:=hid (S2.out.later hbb);have X3:=hid (X2.out.later hbb);have HWB:=hid hWb;clear hWb hbb;obtain ⟨u3c0,u3c1,u3c2,u3c3,u3c4,u3c5,u3c6,u3c7,u3c8⟩:=S3.out.box.r9 (.int .i64 0) (.string ⟨#[]⟩) (.int .i64 0) (.slice none 0 0) (.slice none 0 0) (.slice none 0 0) (.slice none 0 0) (.bool false) (.int .i64 (v.at_:Int)) rfl;have u3cf:=S3.out.box.fz;have u3cl:=S3.out.box.lt)
   |(go_at_call 205;refine (HC.out _ (S1.out.at_.later (by go_grown))).mono ?_;intro e w2 hp;replace hp:=PT.from S1.out (by go_grown) hp;obtain ⟨y2,G2,rfl,hO,hG,hP,hA⟩:=hp;have S2:=hid (S1.out.moved hA hP);have T2:=hid (Tm.new S1.out hO hG (by simp) hA.size (by simp));have X2:=hid (X1.out.moved hA);clear hO hG hP hA;simp only [TV.val,TV.cells]))
  generalize hWs:World.setCell _ _ _=w5
  have hTg:=T2.out.node1g (k:=23) (nn:=1) (b:=⟨#[]⟩) (by decide) (by omega) (by omega) S2.out.at_.lt
  rw [HWB.out] at hTg
  have hS3:=S3.out.lay (nodeV 23 1 ⟨#[]⟩ (some ⟨w2.heap.size,0,none⟩) 1 1)
  have hT3:=hTg.six (b:=ub) (m:=0) (y':=nodeV 23 1 ⟨#[]⟩ (some ⟨w2.heap.size,0,none⟩) 1 1) (hTg.above S1.out.box.lt)
  have hX3:=X3.out.six (ub:=ub) (m:=0) (y:=nodeV 23 1 ⟨#[]⟩ (some ⟨w2.heap.size,0,none⟩) 1 1) (by have:=S0.out.box.lt;omega)
  rw [show sixAt w3 ub 0 (nodeV 23 1 ⟨#[]⟩ (some ⟨w2.heap.size,0,none⟩) 1 1)=w5 from hWs] at hS3 hT3 hX3
  have S5:=hid hS3
  have T5:=hid hT3
  have X5:=hid hX3
  clear hTg hS3 hT3 hX3 hWs u3c0 u3c1 u3c2 u3c3 u3c4 u3c5 u3c6 u3c7 u3c8 u3cf u3cl
  obtain ⟨x5c0,x5c1,x5c2⟩:=X5.out.box.rv v rfl;have x5cf:=X5.out.box.fz;have x5cl:=X5.out.box.lt
  obtain ⟨u5c0,u5c1,u5c2,u5c3,u5c4,u5c5,u5c6,u5c7,u5c8⟩:=S5.out.box.r9 (.int .i64 23) (.string ⟨#[]⟩) (.int .i64 1) (.slice none 0 0) (.slice none 0 0) (.slice (some ⟨w2.heap.size,0,none⟩) 1 1) (.slice none 0 0) (.bool false) (.int .i64 (v.at_:Int)) rfl;have u5cf:=S5.out.box.fz;have u5cl:=S5.out.box.lt
  have hR0:=HR0.out
  clear HR0
  cases hr:takes s.ws s.e m2 [125,125] with
  |bad c p=>
   rw [hr] at HT hR0
   have HEq:=hid hR0
   clear hR0 hr
   go_wp2_with (go_at_call 204;refine (HT.out _ (S5.out.at_.later (by go_grown))).mono ?_;intro e w9 hp;replace hp:=PN.from S5.out (by go_grown) hp;obtain ⟨rfl,hA⟩:=hp)
   all_goals exact ⟨rfl,by rw [<-HEq.out];exact ⟨rfl,S5.out.away.next hA⟩⟩
  |ok m3=>
   rw [hr] at HT hR0
   have HEq:=hid hR0
   clear hR0 hr
   go_wp2_with (go_at_call 204;refine (HT.out _ (S5.out.at_.later (by go_grown))).mono ?_;intro e w6 hp;have hA0:=hp.2.2;replace hp:=PN.from S5.out (by go_grown) hp;obtain ⟨rfl,hP,hA⟩:=hp;have S6:=hid (S5.out.moved hA hP);have T6:=hid (T5.out.moved hA);clear hP hA hA0)
   all_goals
    refine bodyPost_ret (v:=.tuple #[]) (by simp [results,Tryz.results172,go_sem]) rfl ?_
    rw [<-HEq.out]
    exact PB.ends S6.out T6.out S1.out.box.lt
end Pz
end Go.Proofs.YtpfkhdlnjefikaaGreatDoor
