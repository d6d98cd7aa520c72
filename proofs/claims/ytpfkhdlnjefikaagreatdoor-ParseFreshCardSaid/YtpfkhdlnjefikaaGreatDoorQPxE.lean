/- Package parse: primary, names and what a word opens. -/
import Derived.Test.YtpfkhdlnjefikaaGreatDoorQPxAB
set_option linter.unusedVariables false
set_option linter.unusedSimpArgs false
namespace Go.Proofs.YtpfkhdlnjefikaaGreatDoor
open Go.RowKit
namespace Pz
def CWith (s:PS) (f:Nat):Prop:=∀ g,g<=f->∀ (v:W) (n o ub:Nat) (w0 w:World),Start s w0 n o (unitCs zeroY v.at_) ub w->Lo s w0 ub (ub+1)->v.at_<=s.e->Deep o->n<=s.ws.length->need s.ws n 9<=g->Calls Tryz.prog 172 #[ptr s,wordV v,.pointer (some ⟨ub,0,none⟩)] w (PB 65 s w0 ub o (within s.ws s.e g v n o))
theorem Un.leaf {s:PS} {w:World} {n o rb:Nat} {cs:Array Value} {W:World} {k a:Int} {b:ByteArray} (_:Start s w n o cs rb W) (hk:0<=k/\k<=100) (hb:b.size<=140737488355328):Un s [] W.heap.size W.heap.size W ⟨.mk k b 0 [] [] [],none,false,a⟩ (unitTV (nodeV k 0 b none 0 0) a) []:=by
 have hR:=(Rows.nil Own TV.cells 34 6 W).ownR
 have:=own_node (k:=k) (n:=0) (s:=b) hR (by omega) (by omega) (by omega) (by omega) hb (by simp) (Nat.le_refl _) (Nat.zero_le _)
 exact ⟨ownU_term (by simpa [rowB,Value.ownBlock] using this) a,⟨by simp,fun b hb=>by cases hb⟩,Nat.le_refl _,by simp,Nat.le_refl _,fun b hb=>by cases hb⟩
set_option maxRecDepth 100000 in
set_option maxHeartbeats 4000000 in
theorem prim2_step {s:PS} {f g n o:Nat} {v:W} {w:World} (hg:g<=f) (hP:PAt w s n o) (hD:Deep o) (hv:s.ws[n]? =some v) (hn:need s.ws n 1<=g+1) (hk:v.kind=2):
 Calls Tryz.prog 144 #[ptr s] w (PU 65 s w o (primary s.ws s.e (g+1) n o)):=by
 obtain ⟨R0,hR0⟩:∃ R0,primary s.ws s.e (g+1) n o=R0:=⟨_,rfl⟩
 rw [hR0]
 rw [primary,hv] at hR0
 dsimp only at hR0
 have HP:=hid hP
 have HV:=hid hv
 have HOk:=hid hP.ok
 have HG:=hid hg
 have HN:=hid hn
 have HDp:=hid hD
 have HLt:=hid (show n<s.ws.length from (List.getElem?_eq_some_iff.1 hv).1)
 have HLen:=hid (hP.ok.word n v hv).2.len
 have HAtE:=hid (hP.ok.word n v hv).1
 have HW:=hid (show wrap64 ((n:Int)+1)=((n+1:Nat):Int) from wrap_succ (by have:=hP.ok.len;have:=HLt.out;omega))
 unfold ptr
 rw [if_neg (by rw [hk];decide),if_pos hk] at hR0
 have d1:(v.kind==1)=false:=by simp [hk]
 have d2:(v.kind==2)=true:=by simp [hk]
 have HEq:=hid hR0
 clear hk hR0 hv hg hP hD hn
 go_enter Tryz.func144,Tryz.ntmps144
 go_upto_region 1 with fail
 generalize hWr:World.alloc w _=w1
 have S1:=hid (show Start s w n o zeroU w.heap.size w1 from by rw [<-hWr];exact Start.new HP.out zeroU _)
 clear hWr
 have h0:=S1.out.at_.c0
 have h1:=S1.out.at_.c1
 obtain ⟨hwa,k0,k1,k2⟩:=S1.out.at_.word HV.out
 rw [hwa] at h0
 have hn0:n<s.ws.length:=HLt.out
 have hpb:=S1.out.at_.lt
 have hwb:s.wb<w1.heap.size:=World.block_lt_of_cell? _ _ k0
 go_upto_region 2 with fail
 go_region
 generalize hWa:World.drew (World.alloc w1 _)=w2
 have hb2:Below w1.heap.size w1 w2:=hWa▸((Below.refl _ _).alloc (Nat.le_refl _) _).drew
 have X2:=hid (show Bx s w2 w1.heap.size (wcells v) from by rw [<-hWa];exact (Bx.new S1.out (wcells v) 71).later ((Below.refl _ _).drew))
 have S2:=hid (S1.out.later hb2)
 clear hWa hb2 h0 h1 k0 k1 k2 hpb hwb hn0
 obtain ⟨x2c0,x2c1,x2c2⟩:=X2.out.box.rv v rfl;have x2cf:=X2.out.box.fz;have x2cl:=X2.out.box.lt
 go_upto_region 3 with fail
 generalize hWb:World.alloc w2 _=w3
 have hb3:Below w2.heap.size w2 w3:=hWb▸(Below.refl _ _).alloc (Nat.le_refl _) _
 have B3:=hid (show Start s w2 n o (unitCs zeroY v.at_) w2.heap.size w3 from by rw [<-hWb];exact Start.new S2.out.at_ (unitCs zeroY v.at_) _)
 have S3:=hid (S2.out.later hb3)
 have X3:=hid (X2.out.later hb3)
 clear hWb hb3 x2c0 x2c1 x2c2 x2cf x2cl
 obtain ⟨x3c0,x3c1,x3c2⟩:=X3.out.box.rv v rfl;have x3cf:=X3.out.box.fz;have x3cl:=X3.out.box.lt
 obtain ⟨u3c0,u3c1,u3c2,u3c3,u3c4,u3c5,u3c6,u3c7,u3c8⟩:=B3.out.box.r9 (.int .i64 0) (.string ⟨#[]⟩) (.int .i64 0) (.slice none 0 0) (.slice none 0 0) (.slice none 0 0) (.slice none 0 0) (.bool false) (.int .i64 (v.at_:Int)) rfl;have u3cf:=B3.out.box.fz;have u3cl:=B3.out.box.lt
 go_upto_region 26 with fail
 generalize hWs:World.setCell _ _ _=w4
 have hB4:=B3.out.lay (nodeV 2 0 (bytes v.text) none 0 0)
 have hS4:=S3.out.under (S2.out.lo (Nat.le_refl _)) (sixAt_below w3 w2.heap.size 0 (nodeV 2 0 (bytes v.text) none 0 0) (Nat.le_refl _))
 rw [show sixAt w3 w2.heap.size 0 (nodeV 2 0 (bytes v.text) none 0 0)=w4 from hWs] at hB4 hS4
 have B4:=hid hB4
 have S4:=hid hS4
 clear hB4 hS4 hWs x3c0 x3c1 x3c2 x3cf x3cl u3c0 u3c1 u3c2 u3c3 u3c4 u3c5 u3c6 u3c7 u3c8 u3cf u3cl
 have p4c1:=S4.out.at_.c1
 have p4cf:=S4.out.at_.fz
 go_upto_region 27 with fail
 generalize hWn:World.setCell w4 _ _=w5
 have hAn:Away s.pb w4.heap.size w4 w5:=hWn▸(Away.refl _ _ _).setCell (q:=⟨s.pb,1,none⟩) (.inl rfl) _
 have hPn:=S4.out.at_.next (n+1) (v:=.int .i64 (wrap64 ((n:Int)+1))) (by rw [HW.out])
 rw [hWn] at hPn
 have S5:=hid (S4.out.moved hAn hPn)
 have B5:=hid (B4.out.moved hAn hPn)
 clear hAn hPn hWn p4c1 p4cf
 obtain ⟨u5c0,u5c1,u5c2,u5c3,u5c4,u5c5,u5c6,u5c7,u5c8⟩:=B5.out.box.r9 (.int .i64 2) (.string (bytes v.text)) (.int .i64 0) (.slice none 0 0) (.slice none 0 0) (.slice none 0 0) (.slice none 0 0) (.bool false) (.int .i64 (v.at_:Int)) rfl;have u5cf:=B5.out.box.fz;have u5cl:=B5.out.box.lt
 obtain ⟨c0,c1,c2,c3,c4,c5,c6,c7,c8⟩:=S5.out.box.r9 (.int .i64 0) (.string ⟨#[]⟩) (.int .i64 0) (.slice none 0 0) (.slice none 0 0) (.slice none 0 0) (.slice none 0 0) (.bool false) (.int .i64 0) rfl;have cf:=S5.out.box.fz;have cl:=S5.out.box.lt
 go_wp2_with fail
 refine bodyPost_ret (v:=(unitTV (nodeV 2 0 (bytes v.text) none 0 0) (v.at_:Int)).val) (by simp [results,Tryz.results144,unitTV,nodeV,UV.val,UV.cells,c0,c1,c2,c3,c4,c5,c6,c7,c8,cf,go_sem]) rfl ?_
 rw [<-HEq.out]
 exact (Un.leaf (k:=2) (b:=bytes v.text) (a:=(v.at_:Int)) S5.out (by omega) (by have:=HLen.out;simp [bytes,ByteArray.size];omega)).ends S5.out S5.out.box.lt _ _ _ _ _ _ _ _ _
set_option maxRecDepth 100000 in
set_option maxHeartbeats 4000000 in
theorem prim3_step {s:PS} {f g n o:Nat} {v:W} {w:World} (hg:g<=f) (hP:PAt w s n o) (hD:Deep o) (hv:s.ws[n]? =some v) (hn:need s.ws n 1<=g+1) (hk:v.kind=3):
 Calls Tryz.prog 144 #[ptr s] w (PU 65 s w o (primary s.ws s.e (g+1) n o)):=by
 obtain ⟨R0,hR0⟩:∃ R0,primary s.ws s.e (g+1) n o=R0:=⟨_,rfl⟩
 rw [hR0]
 rw [primary,hv] at hR0
 dsimp only at hR0
 have HP:=hid hP
 have HV:=hid hv
 have HOk:=hid hP.ok
 have HG:=hid hg
 have HN:=hid hn
 have HDp:=hid hD
 have HLt:=hid (show n<s.ws.length from (List.getElem?_eq_some_iff.1 hv).1)
 have HLen:=hid (hP.ok.word n v hv).2.len
 have HAtE:=hid (hP.ok.word n v hv).1
 have HW:=hid (show wrap64 ((n:Int)+1)=((n+1:Nat):Int) from wrap_succ (by have:=hP.ok.len;have:=HLt.out;omega))
 unfold ptr
 rw [if_neg (by rw [hk];decide),if_neg (by rw [hk];decide),if_pos hk] at hR0
 have d1:(v.kind==1)=false:=by simp [hk]
 have d2:(v.kind==2)=false:=by simp [hk]
 have d3:(v.kind==3)=true:=by simp [hk]
 have HEq:=hid hR0
 clear hk hR0 hv hg hP hD hn
 go_enter Tryz.func144,Tryz.ntmps144
 go_upto_region 1 with fail
 generalize hWr:World.alloc w _=w1
 have S1:=hid (show Start s w n o zeroU w.heap.size w1 from by rw [<-hWr];exact Start.new HP.out zeroU _)
 clear hWr
 have h0:=S1.out.at_.c0
 have h1:=S1.out.at_.c1
 obtain ⟨hwa,k0,k1,k2⟩:=S1.out.at_.word HV.out
 rw [hwa] at h0
 have hn0:n<s.ws.length:=HLt.out
 have hpb:=S1.out.at_.lt
 have hwb:s.wb<w1.heap.size:=World.block_lt_of_cell? _ _ k0
 go_upto_region 2 with fail
 go_region
 generalize hWa:World.drew (World.alloc w1 _)=w2
 have hb2:Below w1.heap.size w1 w2:=hWa▸((Below.refl _ _).alloc (Nat.le_refl _) _).drew
 have X2:=hid (show Bx s w2 w1.heap.size (wcells v) from by rw [<-hWa];exact (Bx.new S1.out (wcells v) 71).later ((Below.refl _ _).drew))
 have S2:=hid (S1.out.later hb2)
 clear hWa hb2 h0 h1 k0 k1 k2 hpb hwb hn0
 obtain ⟨x2c0,x2c1,x2c2⟩:=X2.out.box.rv v rfl;have x2cf:=X2.out.box.fz;have x2cl:=X2.out.box.lt
 go_upto_region 3 with fail
 generalize hWb:World.alloc w2 _=w3
 have hb3:Below w2.heap.size w2 w3:=hWb▸(Below.refl _ _).alloc (Nat.le_refl _) _
 have B3:=hid (show Start s w2 n o (unitCs zeroY v.at_) w2.heap.size w3 from by rw [<-hWb];exact Start.new S2.out.at_ (unitCs zeroY v.at_) _)
 have S3:=hid (S2.out.later hb3)
 have X3:=hid (X2.out.later hb3)
 clear hWb hb3 x2c0 x2c1 x2c2 x2cf x2cl
 obtain ⟨x3c0,x3c1,x3c2⟩:=X3.out.box.rv v rfl;have x3cf:=X3.out.box.fz;have x3cl:=X3.out.box.lt
 obtain ⟨u3c0,u3c1,u3c2,u3c3,u3c4,u3c5,u3c6,u3c7,u3c8⟩:=B3.out.box.r9 (.int .i64 0) (.string ⟨#[]⟩) (.int .i64 0) (.slice none 0 0) (.slice none 0 0) (.slice none 0 0) (.slice none 0 0) (.bool false) (.int .i64 (v.at_:Int)) rfl;have u3cf:=B3.out.box.fz;have u3cl:=B3.out.box.lt
 go_upto_region 26 with fail
 generalize hWs:World.setCell _ _ _=w4
 have hB4:=B3.out.lay (nodeV 21 0 (bytes v.text) none 0 0)
 have hS4:=S3.out.under (S2.out.lo (Nat.le_refl _)) (sixAt_below w3 w2.heap.size 0 (nodeV 21 0 (bytes v.text) none 0 0) (Nat.le_refl _))
 rw [show sixAt w3 w2.heap.size 0 (nodeV 21 0 (bytes v.text) none 0 0)=w4 from hWs] at hB4 hS4
 have B4:=hid hB4
 have S4:=hid hS4
 clear hB4 hS4 hWs x3c0 x3c1 x3c2 x3cf x3cl u3c0 u3c1 u3c2 u3c3 u3c4 u3c5 u3c6 u3c7 u3c8 u3cf u3cl
 have p4c1:=S4.out.at_.c1
 have p4cf:=S4.out.at_.fz
 go_upto_region 27 with fail
 generalize hWn:World.setCell w4 _ _=w5
 have hAn:Away s.pb w4.heap.size w4 w5:=hWn▸(Away.refl _ _ _).setCell (q:=⟨s.pb,1,none⟩) (.inl rfl) _
 have hPn:=S4.out.at_.next (n+1) (v:=.int .i64 (wrap64 ((n:Int)+1))) (by rw [HW.out])
 rw [hWn] at hPn
 have S5:=hid (S4.out.moved hAn hPn)
 have B5:=hid (B4.out.moved hAn hPn)
 clear hAn hPn hWn p4c1 p4cf
 obtain ⟨u5c0,u5c1,u5c2,u5c3,u5c4,u5c5,u5c6,u5c7,u5c8⟩:=B5.out.box.r9 (.int .i64 21) (.string (bytes v.text)) (.int .i64 0) (.slice none 0 0) (.slice none 0 0) (.slice none 0 0) (.slice none 0 0) (.bool false) (.int .i64 (v.at_:Int)) rfl;have u5cf:=B5.out.box.fz;have u5cl:=B5.out.box.lt
 obtain ⟨c0,c1,c2,c3,c4,c5,c6,c7,c8⟩:=S5.out.box.r9 (.int .i64 0) (.string ⟨#[]⟩) (.int .i64 0) (.slice none 0 0) (.slice none 0 0) (.slice none 0 0) (.slice none 0 0) (.bool false) (.int .i64 0) rfl;have cf:=S5.out.box.fz;have cl:=S5.out.box.lt
 go_wp2_with fail
 refine bodyPost_ret (v:=(unitTV (nodeV 21 0 (bytes v.text) none 0 0) (v.at_:Int)).val) (by simp [results,Tryz.results144,unitTV,nodeV,UV.val,UV.cells,c0,c1,c2,c3,c4,c5,c6,c7,c8,cf,go_sem]) rfl ?_
 rw [<-HEq.out]
 exact (Un.leaf (k:=21) (b:=bytes v.text) (a:=(v.at_:Int)) S5.out (by omega) (by have:=HLen.out;simp [bytes,ByteArray.size];omega)).ends S5.out S5.out.box.lt _ _ _ _ _ _ _ _ _
set_option maxRecDepth 100000 in
set_option maxHeartbeats 4000000 in
theorem prim4_step {s:PS} {f g n o:Nat} {v:W} {w:World} (hg:g<=f) (hP:PAt w s n o) (hD:Deep o) (hv:s.ws[n]? =some v) (hn:need s.ws n 1<=g+1) (hk:v.kind=4):
 Calls Tryz.prog 144 #[ptr s] w (PU 65 s w o (primary s.ws s.e (g+1) n o)):=by
 obtain ⟨R0,hR0⟩:∃ R0,primary s.ws s.e (g+1) n o=R0:=⟨_,rfl⟩
 rw [hR0]
 rw [primary,hv] at hR0
 dsimp only at hR0
 have HP:=hid hP
 have HV:=hid hv
 have HOk:=hid hP.ok
 have HG:=hid hg
 have HN:=hid hn
 have HDp:=hid hD
 have HLt:=hid (show n<s.ws.length from (List.getElem?_eq_some_iff.1 hv).1)
 have HLen:=hid (hP.ok.word n v hv).2.len
 have HAtE:=hid (hP.ok.word n v hv).1
 have HW:=hid (show wrap64 ((n:Int)+1)=((n+1:Nat):Int) from wrap_succ (by have:=hP.ok.len;have:=HLt.out;omega))
 unfold ptr
 rw [if_neg (by rw [hk];decide),if_neg (by rw [hk];decide),if_neg (by rw [hk];decide),if_pos hk] at hR0
 have d1:(v.kind==1)=false:=by simp [hk]
 have d2:(v.kind==2)=false:=by simp [hk]
 have d3:(v.kind==3)=false:=by simp [hk]
 have d4:(v.kind==4)=true:=by simp [hk]
 have HEq:=hid hR0
 clear hk hR0 hv hg hP hD hn
 go_enter Tryz.func144,Tryz.ntmps144
 go_upto_region 1 with fail
 generalize hWr:World.alloc w _=w1
 have S1:=hid (show Start s w n o zeroU w.heap.size w1 from by rw [<-hWr];exact Start.new HP.out zeroU _)
 clear hWr
 have h0:=S1.out.at_.c0
 have h1:=S1.out.at_.c1
 obtain ⟨hwa,k0,k1,k2⟩:=S1.out.at_.word HV.out
 rw [hwa] at h0
 have hn0:n<s.ws.length:=HLt.out
 have hpb:=S1.out.at_.lt
 have hwb:s.wb<w1.heap.size:=World.block_lt_of_cell? _ _ k0
 go_upto_region 2 with fail
 go_region
 generalize hWa:World.drew (World.alloc w1 _)=w2
 have hb2:Below w1.heap.size w1 w2:=hWa▸((Below.refl _ _).alloc (Nat.le_refl _) _).drew
 have X2:=hid (show Bx s w2 w1.heap.size (wcells v) from by rw [<-hWa];exact (Bx.new S1.out (wcells v) 71).later ((Below.refl _ _).drew))
 have S2:=hid (S1.out.later hb2)
 clear hWa hb2 h0 h1 k0 k1 k2 hpb hwb hn0
 obtain ⟨x2c0,x2c1,x2c2⟩:=X2.out.box.rv v rfl;have x2cf:=X2.out.box.fz;have x2cl:=X2.out.box.lt
 go_upto_region 3 with fail
 generalize hWb:World.alloc w2 _=w3
 have hb3:Below w2.heap.size w2 w3:=hWb▸(Below.refl _ _).alloc (Nat.le_refl _) _
 have B3:=hid (show Start s w2 n o (unitCs zeroY v.at_) w2.heap.size w3 from by rw [<-hWb];exact Start.new S2.out.at_ (unitCs zeroY v.at_) _)
 have S3:=hid (S2.out.later hb3)
 have X3:=hid (X2.out.later hb3)
 clear hWb hb3 x2c0 x2c1 x2c2 x2cf x2cl
 obtain ⟨x3c0,x3c1,x3c2⟩:=X3.out.box.rv v rfl;have x3cf:=X3.out.box.fz;have x3cl:=X3.out.box.lt
 obtain ⟨u3c0,u3c1,u3c2,u3c3,u3c4,u3c5,u3c6,u3c7,u3c8⟩:=B3.out.box.r9 (.int .i64 0) (.string ⟨#[]⟩) (.int .i64 0) (.slice none 0 0) (.slice none 0 0) (.slice none 0 0) (.slice none 0 0) (.bool false) (.int .i64 (v.at_:Int)) rfl;have u3cf:=B3.out.box.fz;have u3cl:=B3.out.box.lt
 go_upto_region 26 with fail
 generalize hWs:World.setCell _ _ _=w4
 have hB4:=B3.out.lay (nodeV 20 0 (bytes v.text) none 0 0)
 have hS4:=S3.out.under (S2.out.lo (Nat.le_refl _)) (sixAt_below w3 w2.heap.size 0 (nodeV 20 0 (bytes v.text) none 0 0) (Nat.le_refl _))
 rw [show sixAt w3 w2.heap.size 0 (nodeV 20 0 (bytes v.text) none 0 0)=w4 from hWs] at hB4 hS4
 have B4:=hid hB4
 have S4:=hid hS4
 clear hB4 hS4 hWs x3c0 x3c1 x3c2 x3cf x3cl u3c0 u3c1 u3c2 u3c3 u3c4 u3c5 u3c6 u3c7 u3c8 u3cf u3cl
 have p4c1:=S4.out.at_.c1
 have p4cf:=S4.out.at_.fz
 go_upto_region 27 with fail
 generalize hWn:World.setCell w4 _ _=w5
 have hAn:Away s.pb w4.heap.size w4 w5:=hWn▸(Away.refl _ _ _).setCell (q:=⟨s.pb,1,none⟩) (.inl rfl) _
 have hPn:=S4.out.at_.next (n+1) (v:=.int .i64 (wrap64 ((n:Int)+1))) (by rw [HW.out])
 rw [hWn] at hPn
 have S5:=hid (S4.out.moved hAn hPn)
 have B5:=hid (B4.out.moved hAn hPn)
 clear hAn hPn hWn p4c1 p4cf
 obtain ⟨u5c0,u5c1,u5c2,u5c3,u5c4,u5c5,u5c6,u5c7,u5c8⟩:=B5.out.box.r9 (.int .i64 20) (.string (bytes v.text)) (.int .i64 0) (.slice none 0 0) (.slice none 0 0) (.slice none 0 0) (.slice none 0 0) (.bool false) (.int .i64 (v.at_:Int)) rfl;have u5cf:=B5.out.box.fz;have u5cl:=B5.out.box.lt
 obtain ⟨c0,c1,c2,c3,c4,c5,c6,c7,c8⟩:=S5.out.box.r9 (.int .i64 0) (.string ⟨#[]⟩) (.int .i64 0) (.slice none 0 0) (.slice none 0 0) (.slice none 0 0) (.slice none 0 0) (.bool false) (.int .i64 0) rfl;have cf:=S5.out.box.fz;have cl:=S5.out.box.lt
 go_wp2_with fail
 refine bodyPost_ret (v:=(unitTV (nodeV 20 0 (bytes v.text) none 0 0) (v.at_:Int)).val) (by simp [results,Tryz.results144,unitTV,nodeV,UV.val,UV.cells,c0,c1,c2,c3,c4,c5,c6,c7,c8,cf,go_sem]) rfl ?_
 rw [<-HEq.out]
 exact (Un.leaf (k:=20) (b:=bytes v.text) (a:=(v.at_:Int)) S5.out (by omega) (by have:=HLen.out;simp [bytes,ByteArray.size];omega)).ends S5.out S5.out.box.lt _ _ _ _ _ _ _ _ _
set_option maxRecDepth 100000 in
set_option maxHeartbeats 4000000 in
theorem primo_step {s:PS} {f g n o:Nat} {v:W} {w:World} (hwi:CWith s f) (hg:g<=f) (hP:PAt w s n o) (hD:Deep o) (hv:s.ws[n]? =some v) (hn:need s.ws n 1<=g+1) (hk:4<v.kind):
 Calls Tryz.prog 144 #[ptr s] w (PU 65 s w o (primary s.ws s.e (g+1) n o)):=by
 obtain ⟨R0,hR0⟩:∃ R0,primary s.ws s.e (g+1) n o=R0:=⟨_,rfl⟩
 rw [hR0]
 rw [primary,hv] at hR0
 dsimp only at hR0
 have HP:=hid hP
 have HV:=hid hv
 have HOk:=hid hP.ok
 have HG:=hid hg
 have HN:=hid hn
 have HDp:=hid hD
 have HLt:=hid (show n<s.ws.length from (List.getElem?_eq_some_iff.1 hv).1)
 have HLen:=hid (hP.ok.word n v hv).2.len
 have HAtE:=hid (hP.ok.word n v hv).1
 have HW:=hid (show wrap64 ((n:Int)+1)=((n+1:Nat):Int) from wrap_succ (by have:=hP.ok.len;have:=HLt.out;omega))
 unfold ptr
 rw [if_neg (by omega),if_neg (by omega),if_neg (by omega),if_neg (by omega)] at hR0
 have d1:(v.kind==1)=false:=by simp;omega
 have d2:(v.kind==2)=false:=by simp;omega
 have d3:(v.kind==3)=false:=by simp;omega
 have d4:(v.kind==4)=false:=by simp;omega
 have HO:=hid (fun W (h:PAt W s n o)=>opens_calls s n o W h HLt.out (by have:=HDp.out;unfold Deep at this;omega))
 have HWi:=hid hwi
 clear hk hv hg hP hD hn hwi
 have ho:opens s.ws s.e n o=if 512<o+1 then .bad 2 (place s.ws s.e n) else .ok (n+1,o+1):=rfl
 by_cases hd:512<o+1
 ·rw [if_pos hd] at ho
  rw [ho] at HO hR0
  have HEq:=hid hR0
  clear hR0 ho hd
  go_enter Tryz.func144,Tryz.ntmps144
  go_upto_region 1 with fail
  generalize hWr:World.alloc w _=w1
  have S1:=hid (show Start s w n o zeroU w.heap.size w1 from by rw [<-hWr];exact Start.new HP.out zeroU _)
  clear hWr
  have h0:=S1.out.at_.c0
  have h1:=S1.out.at_.c1
  obtain ⟨hwa,k0,k1,k2⟩:=S1.out.at_.word HV.out
  rw [hwa] at h0
  have hn0:n<s.ws.length:=HLt.out
  have hpb:=S1.out.at_.lt
  have hwb:s.wb<w1.heap.size:=World.block_lt_of_cell? _ _ k0
  go_upto_region 2 with fail
  go_region
  generalize hWa:World.drew (World.alloc w1 _)=w2
  have hb2:Below w1.heap.size w1 w2:=hWa▸((Below.refl _ _).alloc (Nat.le_refl _) _).drew
  have X2:=hid (show Bx s w2 w1.heap.size (wcells v) from by rw [<-hWa];exact (Bx.new S1.out (wcells v) 71).later ((Below.refl _ _).drew))
  have S2:=hid (S1.out.later hb2)
  clear hWa hb2 h0 h1 k0 k1 k2 hpb hwb hn0
  obtain ⟨x2c0,x2c1,x2c2⟩:=X2.out.box.rv v rfl;have x2cf:=X2.out.box.fz;have x2cl:=X2.out.box.lt
  go_upto_region 3 with fail
  generalize hWb:World.alloc w2 _=w3
  have hb3:Below w2.heap.size w2 w3:=hWb▸(Below.refl _ _).alloc (Nat.le_refl _) _
  have B3:=hid (show Start s w2 n o (unitCs zeroY v.at_) w2.heap.size w3 from by rw [<-hWb];exact Start.new S2.out.at_ (unitCs zeroY v.at_) _)
  have S3:=hid (S2.out.later hb3)
  have X3:=hid (X2.out.later hb3)
  have HSZ3:=hid (show w3.heap.size=w2.heap.size+1 from by rw [<-hWb];simp)
  clear hWb hb3 x2c0 x2c1 x2c2 x2cf x2cl
  obtain ⟨x3c0,x3c1,x3c2⟩:=X3.out.box.rv v rfl;have x3cf:=X3.out.box.fz;have x3cl:=X3.out.box.lt
  obtain ⟨u3c0,u3c1,u3c2,u3c3,u3c4,u3c5,u3c6,u3c7,u3c8⟩:=B3.out.box.r9 (.int .i64 0) (.string ⟨#[]⟩) (.int .i64 0) (.slice none 0 0) (.slice none 0 0) (.slice none 0 0) (.slice none 0 0) (.bool false) (.int .i64 (v.at_:Int)) rfl;have u3cf:=B3.out.box.fz;have u3cl:=B3.out.box.lt
  go_wp2_with (go_at_call 171;refine (HO.out _ (S3.out.at_.later (by go_grown))).mono ?_;intro e w9 hp;replace hp:=PO.from S3.out (by go_grown) hp;obtain ⟨rfl,hA⟩:=hp)
  all_goals exact ⟨rfl,by rw [<-HEq.out];exact ⟨rfl,S3.out.away.next hA⟩⟩
 rw [if_neg hd] at ho
 rw [ho] at HO hR0
 have HD1:=hid (show Deep (o+1) from by unfold Deep;omega)
 have HWo:=hid (show wrap64 (o:Int)=(o:Int) from by have:=HDp.out;unfold Deep at this;unfold wrap64;omega)
 simp only [R.andThen] at hR0
 clear ho hd
 have HWI:=hid (fun ub (wb W:World) (h:Start s wb (n+1) (o+1) (unitCs zeroY v.at_) ub W) (hl:Lo s wb ub (ub+1))=>HWi.out g HG.out v (n+1) (o+1) ub wb W h hl HAtE.out HD1.out HLt.out (by have:=HN.out;have:=HLt.out;unfold need at*;omega))
 unfold ptr wordV at HWI
 rw [hR0] at HWI
 clear HWi
 cases R0 with
 |bad c p=>
  go_enter Tryz.func144,Tryz.ntmps144
  go_upto_region 1 with fail
  generalize hWr:World.alloc w _=w1
  have S1:=hid (show Start s w n o zeroU w.heap.size w1 from by rw [<-hWr];exact Start.new HP.out zeroU _)
  clear hWr
  have h0:=S1.out.at_.c0
  have h1:=S1.out.at_.c1
  obtain ⟨hwa,k0,k1,k2⟩:=S1.out.at_.word HV.out
  rw [hwa] at h0
  have hn0:n<s.ws.length:=HLt.out
  have hpb:=S1.out.at_.lt
  have hwb:s.wb<w1.heap.size:=World.block_lt_of_cell? _ _ k0
  go_upto_region 2 with fail
  go_region
  generalize hWa:World.drew (World.alloc w1 _)=w2
  have hb2:Below w1.heap.size w1 w2:=hWa▸((Below.refl _ _).alloc (Nat.le_refl _) _).drew
  have X2:=hid (show Bx s w2 w1.heap.size (wcells v) from by rw [<-hWa];exact (Bx.new S1.out (wcells v) 71).later ((Below.refl _ _).drew))
  have S2:=hid (S1.out.later hb2)
  clear hWa hb2 h0 h1 k0 k1 k2 hpb hwb hn0
  obtain ⟨x2c0,x2c1,x2c2⟩:=X2.out.box.rv v rfl;have x2cf:=X2.out.box.fz;have x2cl:=X2.out.box.lt
  go_upto_region 3 with fail
  generalize hWb:World.alloc w2 _=w3
  have hb3:Below w2.heap.size w2 w3:=hWb▸(Below.refl _ _).alloc (Nat.le_refl _) _
  have B3:=hid (show Start s w2 n o (unitCs zeroY v.at_) w2.heap.size w3 from by rw [<-hWb];exact Start.new S2.out.at_ (unitCs zeroY v.at_) _)
  have S3:=hid (S2.out.later hb3)
  have X3:=hid (X2.out.later hb3)
  have HSZ3:=hid (show w3.heap.size=w2.heap.size+1 from by rw [<-hWb];simp)
  clear hWb hb3 x2c0 x2c1 x2c2 x2cf x2cl
  obtain ⟨x3c0,x3c1,x3c2⟩:=X3.out.box.rv v rfl;have x3cf:=X3.out.box.fz;have x3cl:=X3.out.box.lt
  obtain ⟨u3c0,u3c1,u3c2,u3c3,u3c4,u3c5,u3c6,u3c7,u3c8⟩:=B3.out.box.r9 (.int .i64 0) (.string ⟨#[]⟩) (.int .i64 0) (.slice none 0 0) (.slice none 0 0) (.slice none 0 0) (.slice none 0 0) (.bool false) (.int .i64 (v.at_:Int)) rfl;have u3cf:=B3.out.box.fz;have u3cl:=B3.out.box.lt
  go_wp2_with (first
   |(go_at_call 172;refine (HWI.out _ _ _ (B4.out.later (by go_grown)) (B3.out.lo (Nat.le_of_eq HSZ3.out))).mono ?_;intro e w9 hp;obtain ⟨rfl,hA⟩:=hp)
   |(go_at_call 171;refine (HO.out _ (S3.out.at_.later (by go_grown))).mono ?_;intro e w4 hp;replace hp:=PO.from S3.out (by go_grown) hp;obtain ⟨rfl,hP,hA⟩:=hp;have S4:=hid (S3.out.moved hA hP);have B4:=hid (B3.out.moved hA hP);have X4:=hid (X3.out.moved hA);obtain ⟨x4c0,x4c1,x4c2⟩:=X4.out.box.rv v rfl;have x4cf:=X4.out.box.fz;have x4cl:=X4.out.box.lt;clear hP hA))
  all_goals exact ⟨rfl,rfl,S2.out.away.next hA⟩
 |ok r=>
  obtain ⟨u,m⟩:=r
  go_enter Tryz.func144,Tryz.ntmps144
  go_upto_region 1 with fail
  generalize hWr:World.alloc w _=w1
  have S1:=hid (show Start s w n o zeroU w.heap.size w1 from by rw [<-hWr];exact Start.new HP.out zeroU _)
  clear hWr
  have h0:=S1.out.at_.c0
  have h1:=S1.out.at_.c1
  obtain ⟨hwa,k0,k1,k2⟩:=S1.out.at_.word HV.out
  rw [hwa] at h0
  have hn0:n<s.ws.length:=HLt.out
  have hpb:=S1.out.at_.lt
  have hwb:s.wb<w1.heap.size:=World.block_lt_of_cell? _ _ k0
  go_upto_region 2 with fail
  go_region
  generalize hWa:World.drew (World.alloc w1 _)=w2
  have hb2:Below w1.heap.size w1 w2:=hWa▸((Below.refl _ _).alloc (Nat.le_refl _) _).drew
  have X2:=hid (show Bx s w2 w1.heap.size (wcells v) from by rw [<-hWa];exact (Bx.new S1.out (wcells v) 71).later ((Below.refl _ _).drew))
  have S2:=hid (S1.out.later hb2)
  clear hWa hb2 h0 h1 k0 k1 k2 hpb hwb hn0
  obtain ⟨x2c0,x2c1,x2c2⟩:=X2.out.box.rv v rfl;have x2cf:=X2.out.box.fz;have x2cl:=X2.out.box.lt
  go_upto_region 3 with fail
  generalize hWb:World.alloc w2 _=w3
  have hb3:Below w2.heap.size w2 w3:=hWb▸(Below.refl _ _).alloc (Nat.le_refl _) _
  have B3:=hid (show Start s w2 n o (unitCs zeroY v.at_) w2.heap.size w3 from by rw [<-hWb];exact Start.new S2.out.at_ (unitCs zeroY v.at_) _)
  have S3:=hid (S2.out.later hb3)
  have X3:=hid (X2.out.later hb3)
  have HSZ3:=hid (show w3.heap.size=w2.heap.size+1 from by rw [<-hWb];simp)
  clear hWb hb3 x2c0 x2c1 x2c2 x2cf x2cl
  obtain ⟨x3c0,x3c1,x3c2⟩:=X3.out.box.rv v rfl;have x3cf:=X3.out.box.fz;have x3cl:=X3.out.box.lt
  obtain ⟨u3c0,u3c1,u3c2,u3c3,u3c4,u3c5,u3c6,u3c7,u3c8⟩:=B3.out.box.r9 (.int .i64 0) (.string ⟨#[]⟩) (.int .i64 0) (.slice none 0 0) (.slice none 0 0) (.slice none 0 0) (.slice none 0 0) (.bool false) (.int .i64 (v.at_:Int)) rfl;have u3cf:=B3.out.box.fz;have u3cl:=B3.out.box.lt
  go_upto_region 7 with (first
   |(go_at_call 172;refine (HWI.out _ _ _ (B4.out.later (by go_grown)) (B3.out.lo (Nat.le_of_eq HSZ3.out))).mono ?_;intro e w5 hp;obtain ⟨x,G,rfl,hB,hO,hG⟩:=hp;have B5:=hid hB;have S5:=hid (S2.out.moved hB.away hB.at_);have U5:=hid (show Un s [] (w2.heap.size+1) w5.heap.size w5 u x G from ⟨hO,hG,Nat.le_refl _,fun hm=>by have:=(From.lt0 hG _ hm).1;have:=S2.out.at_.lt;omega,by have:=hB.box.lt;omega,fun b hb=>by cases hb⟩);have p5c3:=S5.out.at_.c3;have p5cf:=S5.out.at_.fz;clear hB hO hG)
   |(go_at_call 171;refine (HO.out _ (S3.out.at_.later (by go_grown))).mono ?_;intro e w4 hp;replace hp:=PO.from S3.out (by go_grown) hp;obtain ⟨rfl,hP,hA⟩:=hp;have S4:=hid (S3.out.moved hA hP);have B4:=hid (B3.out.moved hA hP);have X4:=hid (X3.out.moved hA);obtain ⟨x4c0,x4c1,x4c2⟩:=X4.out.box.rv v rfl;have x4cf:=X4.out.box.fz;have x4cl:=X4.out.box.lt;clear hP hA))
  generalize hWn:World.setCell w5 _ _=w6
  have hAn:Away s.pb w5.heap.size w5 w6:=hWn▸(Away.refl _ _ _).setCell (q:=⟨s.pb,3,none⟩) (.inl rfl) _
  have hPn:=S5.out.at_.opened o (v:=.int .i64 (wrap64 (o:Int))) (by rw [HWo.out])
  rw [hWn] at hPn
  have S6:=hid (S5.out.moved hAn hPn)
  have B6:=hid (B5.out.moved hAn hPn)
  have U6:=hid (U5.out.moved hAn)
  clear hAn hPn hWn p5c3 p5cf
  obtain ⟨u6c0,u6c1,u6c2,u6c3,u6c4,u6c5,u6c6,u6c7,u6c8⟩:=B6.out.box.ru x rfl;have u6cf:=B6.out.box.fz;have u6cl:=B6.out.box.lt
  obtain ⟨c0,c1,c2,c3,c4,c5,c6,c7,c8⟩:=S6.out.box.r9 (.int .i64 0) (.string ⟨#[]⟩) (.int .i64 0) (.slice none 0 0) (.slice none 0 0) (.slice none 0 0) (.slice none 0 0) (.bool false) (.int .i64 0) rfl;have cf:=S6.out.box.fz;have cl:=S6.out.box.lt
  go_wp2_with fail
  refine bodyPost_ret (v:=x.val) (by simp [results,Tryz.results144,nodeV,UV.val,UV.cells,c0,c1,c2,c3,c4,c5,c6,c7,c8,cf,go_sem]) rfl ?_
  exact U6.out.ends S6.out (Nat.lt_succ_of_lt S2.out.box.lt) _ _ _ _ _ _ _ _ _
end Pz
end Go.Proofs.YtpfkhdlnjefikaaGreatDoor
