/- Package parse. -/
import Derived.Test.YtimcmghhbdfjfaaGreatDoorQPwAS
import Derived.Deep.RegionLaw
set_option linter.unusedVariables false
set_option linter.unusedSimpArgs false
set_option maxRecDepth 100000
set_option maxHeartbeats 2000000
namespace Go.Proofs.YtimcmghhbdfjfaaGreatDoor
open Go.RowKit
namespace Pz
theorem sees_is {s:PS} {n o:Nat} {l:List UInt8} {b:Bool} (hb:sees s.ws n l=b) (W:World) (h:PAt W s n o):Calls Tryz.prog 122 #[.pointer (some ⟨s.pb,0,none⟩),.string (bytes l)] W fun e w'=>e=.returned (.bool b)/\Below W.heap.size W w':=hb▸sees_calls s n o l W h
def CSent (s:PS) (f:Nat):Prop:=∀ g,g<=f->∀ (n o:Nat) (w:World),PAt w s n o->Deep o->n<=s.ws.length->need s.ws n 7<=g->Calls Tryz.prog 241 #[ptr s] w (PT 61 s [] w o (sentence s.ws s.e g n o))
structure BL (s:PS) (w:World) (o:Nat) (R0:R (T × Nat)) (f n:Nat) (kv:Value) (l:List T) (wr:World):Prop where
 start:Start s w n o zeroT w.heap.size wr
 nb:Nb s (w.heap.size+1) (w.heap.size+2) 14 kv l wr
 lo:Lo s w w.heap.size (w.heap.size+1)
 eq:∃ g,g<=f/\need s.ws n 1<=g/\bodies s.ws s.e g n o l=R0
 len:n<=s.ws.length/\l.length<=n
theorem Lo.mono {s:PS} {w:World} {rb ub ub':Nat} (h:Lo s w rb ub) (hu:ub<=ub'):Lo s w rb ub':=
 ⟨Nat.lt_of_lt_of_le h.pb hu,fun e=>Nat.lt_of_lt_of_le (h.wb e) hu,Nat.lt_of_lt_of_le h.g1 hu,Nat.lt_of_lt_of_le h.g2 hu,Nat.lt_of_lt_of_le h.rb hu,qi h.sz hu⟩
theorem BL.step {s:PS} {w w4 w5:World} {o f m lo3:Nat} {R0:R (T × Nat)} {kv:Value} {l:List T} {ys:List TV} {Fs:List (List Nat)} {t:T} {y:TV} {G:List Nat} {g cap:Nat} (S:Start s w m o zeroT w.heap.size w4) (N:Nb s (w.heap.size+1) (w.heap.size+2) 14 kv l w4) (L:Lo s w w.heap.size (w.heap.size+1))
 (hU:Kids w4 kv l ys Fs) (hF:From [] (w.heap.size+2) lo3 (rowB kv++Fs.flatten)) (ho:w.heap.size+1 ∉ rowB kv++Fs.flatten) (V:Tm s [] lo3 w4.heap.size w4 t y G) (hlo:w.heap.size+2<=lo3)
 (hown:w5.ownsRow 0 28 6 (.slice (some ⟨g,0,none⟩) (l.length+1) cap) (l.length+1) ((ys.flatMap fun y=>(TV.cells y).toList)++(TV.cells y).toList)) (hg:(w4.alloc (.cells y.cells 28)).grownBy w5 kv.ownBlock) (hat:kv.ownBlock=some g\/g=(w4.alloc (.cells y.cells 28)).heap.size) (hlt:g<w5.heap.size) (hgl:w.heap.size+2<=g) (hbl:Below (w.heap.size+2) (w4.alloc (.cells y.cells 28)) w5)
 (heq:∃ g,g<=f/\need s.ws m 1<=g/\bodies s.ws s.e g m o (l++[t])=R0) (hlen:m<=s.ws.length/\l.length+1<=m):
 BL s w o R0 f m (.slice (some ⟨g,0,none⟩) (l.length+1) cap) (l++[t]) (w5.setCell ⟨w.heap.size+1,5,none⟩ (.slice (some ⟨g,0,none⟩) (l.length+1) cap)):=
 ⟨((S.later ((qb _ _).alloc (qa _) _)).under (L.mono (Nat.le_succ _)) hbl).store L 5 _,N.step hU hF ho V hlo hown hg hat hlt hgl hbl,L,heq,by simpa using hlen⟩
theorem body_step {s:PS} {f:Nat} (hs:CSent s f):CBody s (f+1):=by
 intro g hg n o w hP hD hnl hn;obtain ⟨m0,hm0,hmz0,hmz1,hmz2⟩:=info_parts info_term1;cases g with
 |zero=>unfold need at hn;omega
 |succ g=>
  obtain ⟨R0,hR0⟩:∃ R0,body s.ws s.e (g+1) n o=R0:=⟨_,rfl⟩;rw [hR0];rw [body] at hR0;have HOk:=hid hP.ok;have HDp:=hid hD;have HS:=hid hs;have HG:=hid hg;have HN:=hid hn;have HNL:=hid hnl;have Sa:=Start.new hP zeroT 28;have S0:=hid (Sa.later ((qb _ _).alloc (qa _) (.cells (nodeCs 14 (.slice none 0 0)) 28)));have N0:=hid (show Nb s (w.heap.size+1) (w.heap.size+2) 14 (.slice none 0 0) [] _ from by have:=Nb.start Sa 14 28;simpa using this);have L0:=hid (Sa.lo (ub:=w.heap.size+1) (by simp));have HSZ:=hid (show w.heap.size+2=((w.alloc (.cells zeroT 28)).alloc (.cells (nodeCs 14 (.slice none 0 0)) 28)).heap.size from by simp);clear hP hD hs hg hn hnl Sa;unfold ptr;cases h1:sees s.ws n [125,125] with
  |true=>
   have H1:=hid (fun W h=>sees_is (o:=o) h1 W h);rw [if_pos (by rw [h1];simp)] at hR0;have HEq:=hid hR0;clear hR0 h1;go_enter Tryz.func195,Tryz.ntmps195
   go_upto_region 2 with fail
   generalize hW:World.alloc _ _=w0;have hz0:w0=(w.alloc (.cells zeroT 28)).alloc (.cells (nodeCs 14 (.slice none 0 0)) 28):=hW.symm;rw [<-hz0] at S0 N0 HSZ;clear hW hz0;go_wp2_with (first
    |(go_at_call 122;refine (H1.out _ (S0.at_.later (by go_grown))).mono ?_;rintro e w1 ⟨rfl,hb⟩;have hb0:=hb;have hb:=Start.then S0.out hb (by go_grown);have S1:=hid (S0.later hb);obtain ⟨c0,c1,c2,c3,c4,c5⟩:=S1.box.rz rfl;have cf:=S1.box.fz;have cl:=S1.box.lt;have N1:=hid (N0.later hb);obtain ⟨n1c0,n1c1,n1c2,n1c3,n1c4,n1c5⟩:=N1.box.r6 (.int .i64 14) (.string ⟨#[]⟩) (.int .i64 0) (.slice none 0 0) (.slice none 0 0) (.slice none 0 0) rfl;have n1cf:=N1.box.fz;have n1cl:=N1.box.lt;clear hb hb0))
   obtain ⟨G,T⟩:=N1.term (by decide) (by simp);refine bodyPost_ret (v:=(nodeV 14 0 ⟨#[]⟩ none 0 0).val) (by simp [results,Tryz.results195,nodeV,TV.val,TV.cells,c0,c1,c2,c3,c4,c5,cf,go_sem]) rfl ?_;rw [<-HEq.out];exact T.ends S1.out (by omega) (by simp) _ _ _ _ _ _
  |false=>
   have H1:=hid (fun W h=>sees_is (o:=o) h1 W h);cases h2:sees s.ws n [101,108,115,101,46] with
   |true=>
    have H2:=hid (fun W h=>sees_is (o:=o) h2 W h);rw [if_pos (by rw [h1,h2];simp)] at hR0;have HEq:=hid hR0;clear hR0 h1 h2;go_enter Tryz.func195,Tryz.ntmps195
    go_upto_region 2 with fail
    generalize hW:World.alloc _ _=w0;have hz0:w0=(w.alloc (.cells zeroT 28)).alloc (.cells (nodeCs 14 (.slice none 0 0)) 28):=hW.symm;rw [<-hz0] at S0 N0 HSZ;clear hW hz0;go_wp2_with (first
     |(go_at_call 122;refine (H2.out _ (S1.at_.later (by go_grown))).mono ?_;rintro e w2 ⟨rfl,hb⟩;have hb0:=hb;have hb:=Start.then S1.out hb (by go_grown);have S2:=hid (S1.later hb);obtain ⟨c0,c1,c2,c3,c4,c5⟩:=S2.box.rz rfl;have cf:=S2.box.fz;have cl:=S2.box.lt;have N2:=hid (N1.later hb);obtain ⟨n2c0,n2c1,n2c2,n2c3,n2c4,n2c5⟩:=N2.box.r6 (.int .i64 14) (.string ⟨#[]⟩) (.int .i64 0) (.slice none 0 0) (.slice none 0 0) (.slice none 0 0) rfl;have n2cf:=N2.box.fz;have n2cl:=N2.box.lt;clear hb hb0)
     |(go_at_call 122;refine (H1.out _ (S0.at_.later (by go_grown))).mono ?_;rintro e w1 ⟨rfl,hb⟩;have hb0:=hb;have hb:=Start.then S0.out hb (by go_grown);have S1:=hid (S0.later hb);have N1:=hid (N0.later hb);clear hb hb0))
    obtain ⟨G,T⟩:=N2.term (by decide) (by simp);refine bodyPost_ret (v:=(nodeV 14 0 ⟨#[]⟩ none 0 0).val) (by simp [results,Tryz.results195,nodeV,TV.val,TV.cells,c0,c1,c2,c3,c4,c5,cf,go_sem]) rfl ?_;rw [<-HEq.out];exact T.ends S2.out (by omega) (by simp) _ _ _ _ _ _
   |false=>
    have H2:=hid (fun W h=>sees_is (o:=o) h2 W h);cases h3:sees s.ws n [101,110,100,46] with
    |true=>
     have H3:=hid (fun W h=>sees_is (o:=o) h3 W h);rw [if_pos (by rw [h1,h2,h3];simp)] at hR0;have HEq:=hid hR0;clear hR0 h1 h2 h3;go_enter Tryz.func195,Tryz.ntmps195
     go_upto_region 2 with fail
     generalize hW:World.alloc _ _=w0;have hz0:w0=(w.alloc (.cells zeroT 28)).alloc (.cells (nodeCs 14 (.slice none 0 0)) 28):=hW.symm;rw [<-hz0] at S0 N0 HSZ;clear hW hz0;go_wp2_with (first
      |(go_at_call 122;refine (H3.out _ (S2.at_.later (by go_grown))).mono ?_;rintro e w3 ⟨rfl,hb⟩;have hb0:=hb;have hb:=Start.then S2.out hb (by go_grown);have S3:=hid (S2.later hb);obtain ⟨c0,c1,c2,c3,c4,c5⟩:=S3.box.rz rfl;have cf:=S3.box.fz;have cl:=S3.box.lt;have N3:=hid (N2.later hb);obtain ⟨n3c0,n3c1,n3c2,n3c3,n3c4,n3c5⟩:=N3.box.r6 (.int .i64 14) (.string ⟨#[]⟩) (.int .i64 0) (.slice none 0 0) (.slice none 0 0) (.slice none 0 0) rfl;have n3cf:=N3.box.fz;have n3cl:=N3.box.lt;clear hb hb0)
      |(go_at_call 122;refine (H2.out _ (S1.at_.later (by go_grown))).mono ?_;rintro e w2 ⟨rfl,hb⟩;have hb0:=hb;have hb:=Start.then S1.out hb (by go_grown);have S2:=hid (S1.later hb);have N2:=hid (N1.later hb);clear hb hb0)
      |(go_at_call 122;refine (H1.out _ (S0.at_.later (by go_grown))).mono ?_;rintro e w1 ⟨rfl,hb⟩;have hb0:=hb;have hb:=Start.then S0.out hb (by go_grown);have S1:=hid (S0.later hb);have N1:=hid (N0.later hb);clear hb hb0))
     obtain ⟨G,T⟩:=N3.term (by decide) (by simp);refine bodyPost_ret (v:=(nodeV 14 0 ⟨#[]⟩ none 0 0).val) (by simp [results,Tryz.results195,nodeV,TV.val,TV.cells,c0,c1,c2,c3,c4,c5,cf,go_sem]) rfl ?_;rw [<-HEq.out];exact T.ends S3.out (by omega) (by simp) _ _ _ _ _ _
    |false=>
     have H3:=hid (fun W h=>sees_is (o:=o) h3 W h);rw [if_neg (by rw [h1,h2,h3];simp)] at hR0;have hs8:=(sound (fun i w h=>(HOk.word i w h).1) g).sentence n o (by have:=HN.out;unfold need at*;omega);have HC:=hid (fun W (h:PAt W s n o)=>HS.out g (by have:=HG.out;omega) n o W h HDp.out HNL.out (by have:=HN.out;unfold need at*;omega));unfold ptr at HC;obtain ⟨l0,hl0⟩:∃ l0:List T,l0=[]:=⟨_,rfl⟩;have HL0:=hid hl0;rw [<-hl0] at N0;clear h1 h2 h3 hl0;cases hr:sentence s.ws s.e g n o with
     |bad c p=>
      rw [hr] at HC hR0;have HEq:=hid hR0;clear hR0 hr hs8;go_enter Tryz.func195,Tryz.ntmps195
      go_upto_region 2 with fail
      generalize hW:World.alloc _ _=w0;have hz0:w0=(w.alloc (.cells zeroT 28)).alloc (.cells (nodeCs 14 (.slice none 0 0)) 28):=hW.symm;rw [<-hz0] at S0 N0 HSZ;clear hW hz0;go_wp2_with (first
       |(go_at_call 122;refine (H3.out _ (S2.at_.later (by go_grown))).mono ?_;rintro e w3 ⟨rfl,hb⟩;have hb0:=hb;have hb:=Start.then S2.out hb (by go_grown);have S3:=hid (S2.later hb);have N3:=hid (N2.later hb);obtain ⟨n3c0,n3c1,n3c2,n3c3,n3c4,n3c5⟩:=N3.box.r6 (.int .i64 14) (.string ⟨#[]⟩) (.int .i64 0) (.slice none 0 0) (.slice none 0 0) (.slice none 0 0) rfl;have n3cf:=N3.box.fz;have n3cl:=N3.box.lt;clear hb hb0)
       |(go_at_call 122;refine (H2.out _ (S1.at_.later (by go_grown))).mono ?_;rintro e w2 ⟨rfl,hb⟩;have hb0:=hb;have hb:=Start.then S1.out hb (by go_grown);have S2:=hid (S1.later hb);have N2:=hid (N1.later hb);clear hb hb0)
       |(go_at_call 122;refine (H1.out _ (S0.at_.later (by go_grown))).mono ?_;rintro e w1 ⟨rfl,hb⟩;have hb0:=hb;have hb:=Start.then S0.out hb (by go_grown);have S1:=hid (S0.later hb);have N1:=hid (N0.later hb);clear hb hb0))
      refine wp_region_held_drew (S:=fun w'=>w'.cell? ⟨w.heap.size+1,5,none⟩=some (.slice none 0 0)) (by kernel_rfl) (by exact n3c5) (fun hHeld=>?_);refine wpAnyH_take (i:=0) (v:=?_) rfl (by kernel_rfl) (by kernel_rfl) (by kernel_rfl) (fun _ _ _ h=>h) (Or.inl ⟨by rfl,?_⟩) (by assumption) ?_;rotate_left
      ·intro w hSw
       (try dsimp only at hSw)
       go_simp;try with_reducible rfl
      try simp only [Act.put,qk,qll,qm]
      refine wpAnyH_take (i:=1) (v:=?_) rfl (by kernel_rfl) (by kernel_rfl) (by kernel_rfl) (fun _ _ _ h=>h) (Or.inl ⟨by rfl,?_⟩) (by assumption) ?_;rotate_left
      ·intro w hSw
       (try dsimp only at hSw)
       go_simp;try with_reducible rfl
      try simp only [Act.put,qk,qll,qm]
      refine wpAnyH_take (i:=2) (v:=?_) rfl (by kernel_rfl) (by kernel_rfl) (by kernel_rfl) (fun _ _ _ h=>h) (Or.inl ⟨by rfl,?_⟩) (by assumption) ?_;rotate_left
      ·intro w hSw
       (try dsimp only at hSw)
       go_simp;try with_reducible rfl
      try simp only [Act.put,qk,qll,qm]
      refine wpAnyH_ready (rs:=[3]) (by kernel_rfl) (by simp) ?_;refine AllReadyH.cons rfl (fun K hK=>?_) AllReadyH.nil;go_simp;go_wp2_with (go_at_call 241;refine (HC.out _ (S3.at_.later (by go_grown))).mono ?_;intro e w9 hp;replace hp:=PT.from S3.out (by go_grown) hp;obtain ⟨rfl,hA⟩:=hp;exact ⟨rfl,by rw [<-HEq.out];exact ⟨rfl,S3.away.next hA⟩⟩)
     |ok r=>
      obtain ⟨t4,m4⟩:=r;rw [hr] at HC hR0 hs8;have HM:=hid (show n<m4/\m4<=s.ws.length from hs8);have HEq:=hid (show bodies s.ws s.e g m4 o (l0++[t4])=R0 from by rw [HL0.out];exact hR0);have HLen:=hid (show l0.length<=1048576 from by rw [HL0.out];simp);clear hR0 hr hs8;go_enter Tryz.func195,Tryz.ntmps195
      go_upto_region 2 with fail
      generalize hW:World.alloc _ _=w0;have hz0:w0=(w.alloc (.cells zeroT 28)).alloc (.cells (nodeCs 14 (.slice none 0 0)) 28):=hW.symm;rw [<-hz0] at S0 N0 HSZ;clear hW hz0;go_wp2_with (first
       |(go_at_call 122;refine (H3.out _ (S2.at_.later (by go_grown))).mono ?_;rintro e w3 ⟨rfl,hb⟩;have hb0:=hb;have hb:=Start.then S2.out hb (by go_grown);have S3:=hid (S2.later hb);have N3:=hid (N2.later hb);obtain ⟨n3c0,n3c1,n3c2,n3c3,n3c4,n3c5⟩:=N3.box.r6 (.int .i64 14) (.string ⟨#[]⟩) (.int .i64 0) (.slice none 0 0) (.slice none 0 0) (.slice none 0 0) rfl;have n3cf:=N3.box.fz;have n3cl:=N3.box.lt;clear hb hb0)
       |(go_at_call 122;refine (H2.out _ (S1.at_.later (by go_grown))).mono ?_;rintro e w2 ⟨rfl,hb⟩;have hb0:=hb;have hb:=Start.then S1.out hb (by go_grown);have S2:=hid (S1.later hb);have N2:=hid (N1.later hb);clear hb hb0)
       |(go_at_call 122;refine (H1.out _ (S0.at_.later (by go_grown))).mono ?_;rintro e w1 ⟨rfl,hb⟩;have hb0:=hb;have hb:=Start.then S0.out hb (by go_grown);have S1:=hid (S0.later hb);have N1:=hid (N0.later hb);clear hb hb0))
      obtain ⟨ys,Fs,hk3,hf3,ho3⟩:=N3.rows;have HK3:=hid hk3;have HF3:=hid hf3;have HO3:=hid ho3;clear hk3 hf3 ho3
      go_region_law (first
       |(refine step_append_lo _ (by rfl) _ _ 26 (by rfl) 28 m0 _ 6 104 Tryz.underlying26 hm0 hmz0 hmz1 hmz2 (by rfl) (by decide) (w.heap.size+2) (by have:=N4.box.lt;have:=T4.hi_;have:=T4.le;simp;omega) (.slice none 0 0) l0.length _ (by rfl) (HK4.row.alloc _) N4.room ⟨w4.heap.size,0,none⟩ 1 1 y4.cells.toList (by rfl) (by rfl) (World.news_of_block (heap_new _ _)) (tv_one y4) (by decide) (by have:=HLen.out;unfold maxLen;omega) (by have:=HLen.out;omega) ?_;intro g8 cap w5 hown hgrow hat hlt hgl hbl;have NBA:=((N4.box.later ((qb _ _).alloc (qa _) (.cells y4.cells 28))).kept (hbl.block _ (by omega)) hbl.size);have nac5:=NBA.cell 5 (.slice none 0 0) rfl;have naf:=NBA.fz;have nal:=NBA.lt)
       |(go_simp;go_at_call 241;refine (HC.out _ (S3.at_.later (by go_grown))).mono ?_;intro e w4 hp;replace hp:=PT.from S3.out (by go_grown) hp;obtain ⟨y4,G4,rfl,hO,hG,hP,hA⟩:=hp;have S4:=hid (S3.moved hA hP);have HSz4:=hid hA.size;have T4:=hid (Tm.new S3.out hO hG (by simp) hA.size (by simp));have N4:=hid (N3.moved hA);have HK4:=hid (HK3.away keeper_own hA (fun b hb'=>⟨(From.lt0 HF3.out b hb').2,by have:=(From.lt0 HF3.out b hb').1;have:=N3.pb;omega⟩));have n4c5:=N4.box.cell 5 (.slice none 0 0) rfl;have n4cf:=N4.box.fz;have n4cl:=N4.box.lt;clear hO hG hP hA;simp only [TV.val,TV.cells]))
      all_goals
       have HB:=hid (BL.step (f:=f+1) S4.out N4.out L0.out HK4.out HF3.out HO3.out T4.out (by have:=HSZ.out;have:=N3.box.lt;have:=S3.away.size;omega) hown hgrow hat hlt hgl hbl ⟨g,by have:=HG.out;omega,by have:=HN.out;have:=HM.out;unfold need at*;omega,HEq.out⟩ ⟨HM.out.2,by have:=HM.out;have:=HL0.out;subst this;simp;omega⟩);clear hown hgrow hat hlt hgl hbl NBA nac5 naf nal n4c5 n4cf n4cl n3c0 n3c1 n3c2 n3c3 n3c4 n3c5 n3cf n3cl;clear HK3 HF3 HK4 S3 N3 S4 N4 T4 HSz4 HLen HEq HM HC HL0;generalize World.setCell w5 _ _=w9 at HB ⊢;go_wp2_with fail
       go_loopw [] (fun w10=>∃ (n1:Nat) (kv:Value) (l:List T),BL s w o R0 (f+1) n1 kv l w10) (fun wr=>s.ws.length-nextOf s.pb wr)
       case atStart=>exact ⟨_,_,_,HB.out⟩
       case round=>
        obtain ⟨w10,hw10⟩:∃ w10,w10=wr:=⟨_,rfl⟩;subst hw10;obtain ⟨n1,kv,l,hbl1⟩:=hrel;obtain ⟨g1,hg1,hn1,heq⟩:=hbl1.eq;have S10:=hid hbl1.start;have N10:=hid hbl1.nb;have HLen1:=hid (And.intro hbl1.len (show s.ws.length<=1048576 from HOk.len));have HNX:=hid hbl1.start.at_.nextOf;have HG1:=hid (And.intro hg1 hn1);clear hbl1;cases g1 with
        |zero=>unfold need at hn1;omega
        |succ g1=>
         clear hg1 hn1;rw [bodies] at heq;cases h4:sees s.ws n1 [59] with
         |false=>
          have H4:=hid (fun W h=>sees_is (o:=o) h4 W h);rw [if_neg (by rw [h4];simp)] at heq;have HEq:=hid heq;clear h4 heq;obtain ⟨A,cap1,rfl⟩:=N10.form;go_wp2_with (first
           |(go_at_call 122;refine (H4.out _ (S10.at_.later (by go_grown))).mono ?_;rintro e w11 ⟨rfl,hb⟩;have hb0:=hb;have hb:=Start.then S10.out hb (by go_grown);have S11:=hid (S10.later hb);obtain ⟨c0,c1,c2,c3,c4,c5⟩:=S11.box.rz rfl;have cf:=S11.box.fz;have cl:=S11.box.lt;have N11:=hid (N10.later hb);obtain ⟨n11c0,n11c1,n11c2,n11c3,n11c4,n11c5⟩:=N11.box.r6 (.int .i64 14) (.string ⟨#[]⟩) (.int .i64 0) (.slice none 0 0) (.slice none 0 0) (.slice A l.length cap1) rfl;have n11cf:=N11.box.fz;have n11cl:=N11.box.lt;clear hb hb0))
          obtain ⟨G,T⟩:=N11.term (by decide) (by have:=HLen1.out;omega);refine bodyPost_ret (v:=(nodeV 14 0 ⟨#[]⟩ A l.length cap1).val) (by simp [results,Tryz.results195,nodeV,TV.val,TV.cells,c0,c1,c2,c3,c4,c5,cf,go_sem]) rfl ?_;rw [<-HEq.out];exact T.ends S11.out (by omega) (by simp) _ _ _ _ _ _
         |true=>
          have H4:=hid (fun W h=>sees_is (o:=o) h4 W h);have hlt1:=sees_lt h4;rw [if_pos h4] at heq;have hs8:=(sound (fun i w h=>(HOk.word i w h).1) g1).sentence (n1+1) o (by have:=HG1.out;unfold need at*;omega);have HC:=hid (fun W (h:PAt W s (n1+1) o)=>HS.out g1 (by have:=HG1.out;omega) (n1+1) o W h HDp.out hlt1 (by have:=HG1.out;unfold need at*;omega));unfold ptr at HC;have HW1:=hid (show wrap64 ((n1:Int)+1)=((n1+1:Nat):Int) from by have:=HLen1.out;unfold wrap64;omega);have HLT1:=hid hlt1;clear h4 hlt1;cases hr:sentence s.ws s.e g1 (n1+1) o with
          |bad c p=>
           rw [hr] at HC heq;have HEq:=hid heq;clear heq hr hs8;go_upto_region 7 with (first
            |(go_at_call 122;refine (H4.out _ (S10.at_.later (by go_grown))).mono ?_;rintro e w11 ⟨rfl,hb⟩;have hb0:=hb;have hb:=Start.then S10.out hb (by go_grown);have S11:=hid (S10.later hb);have N11:=hid (N10.later hb);have p11c1:=S11.at_.c1;have p11cf:=S11.at_.fz;clear hb hb0))
           generalize hWn:World.setCell w11 _ _=w12;have hAn:Away s.pb w11.heap.size w11 w12:=hWn▸(Away.refl _ _ _).setCell (q:=⟨s.pb,1,none⟩) (.inl rfl) _;have hPn:=S11.at_.next (n1+1) (v:=.int .i64 (wrap64 ((n1:Int)+1))) (by rw [HW1.out]);rw [hWn] at hPn;have S12:=hid (S11.moved hAn hPn);have N12:=hid (N11.moved hAn);obtain ⟨n12c0,n12c1,n12c2,n12c3,n12c4,n12c5⟩:=N12.box.r6 (.int .i64 14) (.string ⟨#[]⟩) (.int .i64 0) (.slice none 0 0) (.slice none 0 0) kv rfl;have n12cf:=N12.box.fz;have n12cl:=N12.box.lt;clear hAn hPn hWn;refine wp_region_held_drew (S:=fun w'=>w'.cell? ⟨w.heap.size+1,5,none⟩=some kv) (by kernel_rfl) (by exact n12c5) (fun hHeld=>?_);refine wpAnyH_take (i:=0) (v:=?_) rfl (by kernel_rfl) (by kernel_rfl) (by kernel_rfl) (fun _ _ _ h=>h) (Or.inl ⟨by rfl,?_⟩) (by assumption) ?_;rotate_left
           ·intro w hSw
            (try dsimp only at hSw)
            go_simp;try with_reducible rfl
           try simp only [Act.put,qk,qll,qm]
           refine wpAnyH_take (i:=1) (v:=?_) rfl (by kernel_rfl) (by kernel_rfl) (by kernel_rfl) (fun _ _ _ h=>h) (Or.inl ⟨by rfl,?_⟩) (by assumption) ?_;rotate_left
           ·intro w hSw
            (try dsimp only at hSw)
            go_simp;try with_reducible rfl
           try simp only [Act.put,qk,qll,qm]
           refine wpAnyH_take (i:=2) (v:=?_) rfl (by kernel_rfl) (by kernel_rfl) (by kernel_rfl) (fun _ _ _ h=>h) (Or.inl ⟨by rfl,?_⟩) (by assumption) ?_;rotate_left
           ·intro w hSw
            (try dsimp only at hSw)
            go_simp;try with_reducible rfl
           try simp only [Act.put,qk,qll,qm]
           refine wpAnyH_ready (rs:=[3]) (by kernel_rfl) (by simp) ?_;refine AllReadyH.cons rfl (fun K hK=>?_) AllReadyH.nil;go_simp;go_wp2_with (go_at_call 241;refine (HC.out _ (S12.at_.later (by go_grown))).mono ?_;intro e w9 hp;replace hp:=PT.from S12.out (by go_grown) hp;obtain ⟨rfl,hA⟩:=hp;exact ⟨rfl,by rw [<-HEq.out];exact ⟨rfl,S12.away.next hA⟩⟩)
          |ok r=>
           obtain ⟨t4,m4⟩:=r;rw [hr] at HC heq hs8;have HM:=hid (show n1+1<m4/\m4<=s.ws.length from hs8);have HEq:=hid heq;clear heq hr hs8;go_upto_region 7 with (first
            |(go_at_call 122;refine (H4.out _ (S10.at_.later (by go_grown))).mono ?_;rintro e w11 ⟨rfl,hb⟩;have hb0:=hb;have hb:=Start.then S10.out hb (by go_grown);have S11:=hid (S10.later hb);have N11:=hid (N10.later hb);have p11c1:=S11.at_.c1;have p11cf:=S11.at_.fz;clear hb hb0))
           generalize hWn:World.setCell w11 _ _=w12;have hAn:Away s.pb w11.heap.size w11 w12:=hWn▸(Away.refl _ _ _).setCell (q:=⟨s.pb,1,none⟩) (.inl rfl) _;have hPn:=S11.at_.next (n1+1) (v:=.int .i64 (wrap64 ((n1:Int)+1))) (by rw [HW1.out]);rw [hWn] at hPn;have S12:=hid (S11.moved hAn hPn);have N12:=hid (N11.moved hAn);obtain ⟨n12c0,n12c1,n12c2,n12c3,n12c4,n12c5⟩:=N12.box.r6 (.int .i64 14) (.string ⟨#[]⟩) (.int .i64 0) (.slice none 0 0) (.slice none 0 0) kv rfl;have n12cf:=N12.box.fz;have n12cl:=N12.box.lt;clear hAn hPn hWn;obtain ⟨ys1,Fs1,hk3,hf3,ho3⟩:=N12.rows;have HK12:=hid hk3;have HF12:=hid hf3;have HO12:=hid ho3;clear hk3 hf3 ho3
           go_region_law (first
            |(refine step_append_lo _ (by rfl) _ _ 26 (by rfl) 28 m0 _ 6 104 Tryz.underlying26 hm0 hmz0 hmz1 hmz2 (by rfl) (by decide) (w.heap.size+2) (by have:=N13.box.lt;have:=T13.hi_;have:=T13.le;simp;omega) kv l.length _ (by rfl) (HK13.row.alloc _) N13.room ⟨w13.heap.size,0,none⟩ 1 1 y13.cells.toList (by rfl) (by rfl) (World.news_of_block (heap_new _ _)) (tv_one y13) (by decide) (by have:=HLen1.out;unfold maxLen;omega) (by have:=HLen1.out;omega) ?_;intro g8 cap w14 hown hgrow hat hlt hgl hbl;have NBA:=((N13.box.later ((qb _ _).alloc (qa _) (.cells y13.cells 28))).kept (hbl.block _ (by omega)) hbl.size);have nac5:=NBA.cell 5 kv rfl;have naf:=NBA.fz;have nal:=NBA.lt)
            |(go_simp;go_at_call 241;refine (HC.out _ (S12.at_.later (by go_grown))).mono ?_;intro e w13 hp;replace hp:=PT.from S12.out (by go_grown) hp;obtain ⟨y13,G13,rfl,hO,hG,hP,hA⟩:=hp;have S13:=hid (S12.moved hA hP);have HSz13:=hid hA.size;have T13:=hid (Tm.new S12.out hO hG (by simp) hA.size (by simp));have N13:=hid (N12.moved hA);have HK13:=hid (HK12.away keeper_own hA (fun b hb'=>⟨(From.lt0 HF12.out b hb').2,by have:=(From.lt0 HF12.out b hb').1;have:=N12.pb;omega⟩));have n13c5:=N13.box.cell 5 kv rfl;have n13cf:=N13.box.fz;have n13cl:=N13.box.lt;clear hO hG hP hA;simp only [TV.val,TV.cells]))
           all_goals
            have HB2:=hid (BL.step (f:=f+1) S13.out N13.out L0.out HK13.out HF12.out HO12.out T13.out (by have:=N12.box.lt;omega) hown hgrow hat hlt hgl hbl ⟨g1,by have:=HG1.out;omega,by have:=HG1.out;have:=HM.out;unfold need at*;omega,HEq.out⟩ ⟨HM.out.2,by have:=HM.out;have:=HLen1.out;omega⟩)
            (try go_wp2_with fail)
            go_roundw
            case rel=>exact ⟨_,_,_,HB2.out⟩
            case measure=>
             rw [HB2.start.at_.nextOf,HNX.out];have:=HM.out;have:=HLT1.out;omega
end Pz
end Go.Proofs.YtimcmghhbdfjfaaGreatDoor
