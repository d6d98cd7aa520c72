/- Package parse. -/
import Derived.Test.YtimcmghhbdfjfaaGreatDoorQPxE
import Derived.Test.YtimcmghhbdfjfaaGreatDoorQPwZA
import Derived.Test.YtimcmghhbdfjfaaGreatDoorQPxF
set_option linter.unusedVariables false
set_option linter.unusedSimpArgs false
set_option maxRecDepth 100000
set_option maxHeartbeats 4000000
namespace Go.Proofs.YtimcmghhbdfjfaaGreatDoor
open Go.RowKit
namespace Pz
def numCs (a:Int) (v:Value):Array Value:=#[.int .i64 0,.string ⟨#[]⟩,.int .i64 0,.slice none 0 0,v,.slice none 0 0,.slice none 0 0,.bool false,.int .i64 a]
theorem numCs_fifth (a:Int):Fifth (numCs a):=by
 intro v v';refine ⟨rfl,fun i x h=>?_⟩;unfold numCs at h ⊢
 match i with
 |0=>simpa using h
 |1=>simpa using h
 |2=>simpa using h
 |3=>simpa using h
 |4=>simp at h;simp [h]
 |5=>simpa using h
 |6=>simpa using h
 |7=>simpa using h
 |8=>simpa using h
 |i+9=>simp at h
theorem contains_at {ps:List (List UInt8)} {K:Nat} (h:ps[K]? =some [95]):ps.contains [95]=true:=by
 simp only [List.contains_eq_mem,decide_eq_true_eq];exact List.mem_of_getElem? h
theorem contains_not {ps:List (List UInt8)} (h:∀ q p,q<ps.length->ps[q]? =some p->p≠[95]):ps.contains [95]=false:=by
 rw [Bool.eq_false_iff];intro hc;simp only [List.contains_eq_mem,decide_eq_true_eq] at hc;obtain ⟨q,hq⟩:=List.getElem?_of_mem hc;exact h q [95] (qn.1 hq).1 hq rfl
theorem Acc.unit {s:PS} {w w3 wr w8:World} {n o rb sb K:Nat} {a:Int} {ps:List (List UInt8)} {xs:List Int} {g cap:Nat} (S:Start s w n o zeroU rb w3) (hA:Acc w3 sb ps xs (numCs a) K (.slice (some ⟨g,0,none⟩) K cap) wr) (hI:OwnI wr 2 (some ⟨g,0,none⟩) K cap xs [g]) (hg:sb<g/\g<wr.heap.size) (hc:K<=cap/\cap<=maxLen) (hK:K<=2*1048576+1)
 (hb:Below w3.heap.size wr w8) (hg8:w8.heap[g]? =wr.heap[g]?) {sa:Option Addr} {sl sc:Nat} {sh:List Int} {F:List Nat} (hs:OwnI w8 3 sa sl sc sh F) (hF:F=[]\/F=[wr.heap.size]/\wr.heap.size<w8.heap.size) (hsl:sl<=sc/\sc<=1):
 Un s [] (w3.heap.size+1) w8.heap.size w8 ⟨.mk 1 ⟨#[]⟩ 0 sh xs [],none,false,a⟩ (unitTV ⟨1,⟨#[]⟩,0,sa,sl,sc,some ⟨g,0,none⟩,K,cap,none,0,0⟩ a) (F++[g]):=by
 have h0:=hA.sb0;have hR:=(Rows.nil Own TV.cells 28 6 w8).ownR;have ho:=own_node (k:=1) (n:=0) (s:=⟨#[]⟩) hR (by omega) (by omega) (by omega) (by omega) (by decide) (by simp) (qa _) (Nat.zero_le _);have hsz:=hb.size
 have hI8:=hI.kept (w':=w8) (fun b hb=>by have:b=g:=by simpa using hb
                                          subst this;exact hg8)
 have hm:maxLen=1*maxLen:=(Nat.one_mul _).symm;have:=own_nums ho hs hI8 (by omega) (by omega) hsl.1 (qi hsl.2 (by unfold maxLen;decide)) hc.1 hc.2;have hw3:=S.at_.lt;have hfr:∀ b∈F++[g],w3.heap.size+1<=b/\b<w8.heap.size:=fun b hb=>by
  rcases List.mem_append.1 hb with hb|hb
  ·rcases hF with rfl|⟨rfl,h1⟩
   ·cases hb
   ·have:b=wr.heap.size:=by simpa using hb
    omega
  ·have:b=g:=by simpa using hb
   omega
 refine ⟨ownU_term (by simpa [rowB,Value.ownBlock] using this) a,⟨?_,fun b hb=>.inr (hfr b hb)⟩,qa _,fun hm=>by have:=(hfr _ hm).1;omega,by omega,fun b hb=>by cases hb⟩;rcases hF with rfl|⟨rfl,h1⟩
 ·simp
 ·simp;omega
theorem ownI_one (W:World) (K:Nat):OwnI (W.alloc (.cells #[.int .i64 (K:Int)] 3)) 3 (some ⟨W.heap.size,0,none⟩) 1 1 [(K:Int)] [W.heap.size]:=by
 refine ⟨rfl,.inr ⟨W.heap.size,_,rfl,rfl,heap_new _ _,qa _,by unfold maxLen;decide,by simp⟩,fun b e i u hu=>?_⟩;have:W.heap.size=b:=by simpa using e
 subst this;have hi:i=0:=by have:=(qn.1 hu).1;simpa using this
 subst hi;have hu:(K:Int)=u:=by simpa using hu
 rw [cell_of_row _ _ _ _ _ _ (heap_new _ _),<-hu];rfl
theorem num_max {K L:Nat} (h:K<L) (hL:L<=2*1048576+1):K+1<=maxLen/\(K+1)*8<=140737488355328:=by
 unfold maxLen;omega
theorem num_wrap {K:Nat} (h:K+1<=maxLen/\(K+1)*8<=140737488355328):wrap64 ((K:Int)+1)=(K:Int)+1:=by
 obtain ⟨-,h⟩:=h;unfold wrap64;omega
theorem primn_step {s:PS} {f g n o:Nat} {v:W} {w:World} (hg:g<=f) (hP:PAt w s n o) (hD:Deep o) (hv:s.ws[n]? =some v) (hn:need s.ws n 1<=g+1) (hk:v.kind=1):
 Calls Tryz.prog 123 #[ptr s] w (PU 61 s w o (primary s.ws s.e (g+1) n o)):=by
 obtain ⟨R0,hR0⟩:∃ R0,primary s.ws s.e (g+1) n o=R0:=⟨_,rfl⟩;rw [hR0];rw [primary,hv] at hR0;dsimp only at hR0;have HP:=hid hP;have HV:=hid hv;have HOk:=hid hP.ok;have HG:=hid hg;have HN:=hid hn;have HDp:=hid hD;have HLt:=hid (show n<s.ws.length from (qn.1 hv).1);have HLen:=hid (hP.ok.word n v hv).2.len;have HAtE:=hid (hP.ok.word n v hv).1;have HW:=hid (show wrap64 ((n:Int)+1)=((n+1:Nat):Int) from wrap_succ (by have:=hP.ok.len;have:=HLt.out;omega));unfold ptr;rw [if_pos hk] at hR0;have d1:(v.kind==1)=true:=by simp [hk]
 have HR0:=hid hR0;have HNo:=hid ((hP.ok.word n v hv).2.num hk);have HPl:=hid (fun p hp=>splitBlank_mem_len v.text p hp);have HM:=hid (splitBlank_ne v.text);have HLs:=hid (qi (splitBlank_len v.text) (Nat.succ_le_succ HLen.out));clear hk hR0 hv hg hP hD hn;obtain ⟨j0,hj0,hy0,hy1,hy2⟩:=info_parts info_int640;go_enter Tryz.func123,Tryz.ntmps123
 go_upto_region 1 with fail
 generalize hWr:World.alloc w _=w1;have S1:=hid (show Start s w n o zeroU w.heap.size w1 from by rw [<-hWr];exact Start.new HP.out zeroU _);clear hWr;have h0:=S1.at_.c0;have h1:=S1.at_.c1;obtain ⟨hwa,k0,k1,k2⟩:=S1.at_.word HV.out;rw [hwa] at h0;have hn0:n<s.ws.length:=HLt.out;have hpb:=S1.at_.lt;have hwb:s.wb<w1.heap.size:=qc _ _ k0;go_upto_region 2 with fail
 go_region
 generalize hWa:World.drew (World.alloc w1 _)=w2;have hb2:Below w1.heap.size w1 w2:=hWa▸((qb _ _).alloc (qa _) _).drew;have X2:=hid (show Bx s w2 w1.heap.size (wcells v) from by rw [<-hWa];exact (Bx.new S1.out (wcells v) 67).later ((qb _ _).drew));have S2:=hid (S1.later hb2);clear hWa hb2 h0 h1 k0 k1 k2 hpb hwb hn0;obtain ⟨x2c0,x2c1,x2c2⟩:=X2.box.rv v rfl;have x2cf:=X2.box.fz;have x2cl:=X2.box.lt;go_upto_region 3 with fail
 generalize hWb:World.alloc w2 _=w3;have hb3:Below w2.heap.size w2 w3:=hWb▸(qb _ _).alloc (qa _) _;have B3:=hid (show Start s w2 n o (unitCs zeroY v.at_) w2.heap.size w3 from by rw [<-hWb];exact Start.new S2.at_ (unitCs zeroY v.at_) _);have S3:=hid (S2.later hb3);have X3:=hid (X2.later hb3);have HWB:=hid hWb;have HSZ3:=hid (show w3.heap.size=w2.heap.size+1 from by rw [<-hWb];simp);clear hWb hb3 x2c0 x2c1 x2c2 x2cf x2cl;obtain ⟨x3c0,x3c1,x3c2⟩:=X3.box.rv v rfl;have x3cf:=X3.box.fz;have x3cl:=X3.box.lt;obtain ⟨u3c0,u3c1,u3c2,u3c3,u3c4,u3c5,u3c6,u3c7,u3c8⟩:=B3.box.r9 (.int .i64 0) (.string ⟨#[]⟩) (.int .i64 0) (.slice none 0 0) (.slice none 0 0) (.slice none 0 0) (.slice none 0 0) (.bool false) (.int .i64 (v.at_:Int)) rfl;have u3cf:=B3.box.fz;have u3cl:=B3.box.lt;go_wp2_with (go_at_call 153;refine (split_calls v.text _ (by have:=HLen.out;omega) (S3.at_.vars.later (by go_grown) (qa _))).mono ?_;rintro e w4 ⟨rfl,rfl⟩)
 have HA0:=hid (show Acc w2 (w2.heap.size+1) (splitBlank v.text) ((splitBlank v.text).map numberOf) (numCs v.at_) 0 (.slice none 0 0) (w3.alloc (.cells ((splitBlank v.text).map fun p=>Value.string (bytes p)).toArray 9)) from by
  have:=Acc.start w2 (numCs v.at_) (splitBlank v.text) ((splitBlank v.text).map numberOf) 145
  rwa [show w2.alloc (.cells (numCs v.at_ (.slice none 0 0)) 145)=w3 from HWB.out] at this)
 have hcd:(if (splitBlank v.text).contains [95] then R.bad 32 (v.at_:Int) else R.ok (⟨.mk 1 ⟨#[]⟩ 0 (if 1<((splitBlank v.text).map numberOf).length then [(((splitBlank v.text).map numberOf).length:Int)] else []) ((splitBlank v.text).map numberOf) [],none,false,(v.at_:Int)⟩,n+1))=R0:=by
  have h:=HR0.out;unfold constant at h;dsimp only at h;by_cases hc:(splitBlank v.text).contains [95]=true
  ·rw [if_pos hc] at h ⊢
   exact h
  ·rw [if_neg hc] at h ⊢
   exact h
 have HCd:=hid hcd;clear hcd HR0;generalize hps:splitBlank v.text=ps at HNo HM HLs HA0 HPl HCd ⊢;clear hps x3c0 x3c1 x3c2 x3cf x3cl u3c0 u3c1 u3c2 u3c3 u3c4 u3c5 u3c6 u3c7 u3c8 u3cf u3cl
 go_loopw [42] (fun i wr=>∃ (K:Nat) (v':Value),K<=ps.length/\i=.int .i64 K/\Acc w2 (w2.heap.size+1) ps (ps.map numberOf) (numCs v.at_) K v' wr/\Hid (∀ q p,q<K->ps[q]? =some p->p≠[95])) (fun i _=>ps.length-(intOf i).toNat)
 case atStart=>exact ⟨0,_,Nat.zero_le _,rfl,HA0.out,hid (fun q p h=>absurd h (Nat.not_lt_zero q))⟩
 case round=>
  obtain ⟨wl,hwl⟩:∃ wl,wl=wr:=⟨_,rfl⟩;subst hwl;obtain ⟨K,v',hK,rfl,hA,hno⟩:=hrel;have HNn:=hno;clear hno;by_cases hlt:K<ps.length
  ·obtain ⟨p,hp⟩:∃ p,ps[K]? =some p:=⟨_,List.getElem?_eq_getElem hlt⟩
   have HX:=hid (show (ps.map numberOf)[K]? =some (numberOf p) from by rw [List.getElem?_map,hp];rfl);have HPp:=hid hp;have HA:=hid hA;have hst:wl.cell? ⟨w3.heap.size,K,none⟩=some (.string (bytes p)):=by rw [HSZ3.out];exact hA.strs K p hp
   have hk1:(K:Int)<(ps.length:Int):=Int.ofNat_lt.2 hlt;have hls:=HLs.out;have hk0:(0:Int)<=(K:Int):=qj _;have HKb:=hid (num_max hlt HLs.out);have HKl:=hid (show K+1<=ps.length from hlt);by_cases h95:p=[95]
   ·have d3:((bytes p).toList==[95])=true:=by rw [text_beq];simp [h95]
    have HEq:=hid (show R.bad 32 (v.at_:Int)=R0 from by have:=HCd.out;rwa [contains_at (h95▸hp),if_pos rfl] at this);have X9:=hid (X2.later hA.below);obtain ⟨x9c0,x9c1,x9c2⟩:=X9.box.rv v rfl;have x9cf:=X9.box.fz;have x9cl:=X9.box.lt;clear h95 hp hA;go_wp2_with (first
     |(go_at_call 27;refine (wrong_calls _ _).mono ?_;rintro e w9 ⟨rfl,rfl⟩))
    all_goals exact ⟨rfl,by rw [<-HEq.out];exact ⟨rfl,S2.away.next (Away.of_below HA.below)⟩⟩
   ·have d3:((bytes p).toList==[95])=false:=by rw [text_beq];simp [h95]
    have HN5:=hid h95;have HNm:=hid (fun W (hv:Vars W)=>number_calls p (HNo.out p (List.mem_of_getElem? hp)) h95 (qi (HPl.out p (List.mem_of_getElem? hp)) HLen.out) W hv);have HVr:=hid (S2.at_.vars.later hA.below (qa _));have c4:=hA.box.cell 4 v' rfl;have c4f:=hA.box.fz;have c4l:=hA.box.lt;clear h95 hp hA;go_upto_region 14 with fail
    go_region_law (first
     |(refine step_append_lies _ (by rfl) _ _ 23 (by rfl) (w2.heap.size+1+1) 2 j0 (.int .i64 0) 1 8 Tryz.underlying23 hj0 hy0 hy1 hy2 (by rfl) (by decide) v' K _ (by rfl) HA2.row ⟨wn.heap.size,0,none⟩ 1 1 [.int .i64 (numberOf p)] (by rfl) (by rfl) (World.news_of_block (heap_new _ _)) (by simp [Value.oneCell']) (by decide) HKb.out.1 HKb.out.2 (by have:=HA2.sb1;omega) _ rfl ?_;intro g8 cap w8 hown hgrow hat hlt2;have HS:=hid (HA2.step (numCs_fifth v.at_) HX.out hown hgrow);have hb8:=HA2.box.kept (w':=w8) (hgrow.block _ HA2.box.lt (fun e=>by have h1:=(ownsRow_lt HA2.row _ e.symm).1;omega)) hgrow.size;have c8:=hb8.cell 4 v' rfl;have c8f:=hb8.fz;have c8l:=hb8.lt;clear hown hgrow hat hb8)
     |(go_simp;go_at_call 154;refine (HNm.out _ (HVr.later (by go_grown) (qa _))).mono ?_;rintro e wn ⟨rfl,hbn⟩;have hbn:Below wl.heap.size wl wn:=(by first|exact hbn|exact (qb _ _).drew.trans hbn);have HA1:=hid (HA.later hbn);have n4:=HA1.box.cell 4 v' rfl;have n4f:=HA1.box.fz;have n4l:=HA1.box.lt;have HA2:=hid (HA1.later (w':=wn.alloc (.cells #[.int .i64 (numberOf p)] 2)) ((qb _ _).alloc (qa _) _));clear hbn))
    all_goals
     (try go_wp2_with fail)
     go_roundw
     case rel=>exact ⟨K+1,_,HKl.out,by go_num,HS.out,hid (fun q p' hq hp'=>by
      rcases Nat.lt_or_ge q K with h|h
      ·exact HNn.out q p' h hp'
      ·have:q=K:=Nat.le_antisymm (Nat.lt_succ_iff.1 hq) h
       subst this;rw [HPp.out] at hp';cases hp'
       exact HN5.out)⟩
     case measure=>exact idx_meas (by first|exact Int.lt_succ _|(rw [num_wrap HKb.out];exact Int.lt_succ _)) hk0 hk1
  ·obtain rfl:K=ps.length:=Nat.le_antisymm hK (Nat.le_of_not_lt hlt)
   have HEq:=hid (show R.ok (⟨.mk 1 ⟨#[]⟩ 0 (if 1<ps.length then [(ps.length:Int)] else []) (ps.map numberOf) [],none,false,(v.at_:Int)⟩,n+1)=R0 from by
    have:=HCd.out;rw [contains_not HNn.out,if_neg (by simp)] at this;simpa only [List.length_map] using this)
   have hpos:0<ps.length:=List.length_pos_iff.2 HM.out;obtain ⟨g9,cap9,rfl,hI,hg1,hg2,hc1,hc2⟩:=hA.form (by rw [List.length_map]) hpos;have HA:=hid hA;have HI:=hid hI;have HGc:=hid (And.intro (And.intro hg1 hg2) (And.intro hc1 hc2));have HPos:=hid hpos;have q3:=hA.box.cell 3 (.slice none 0 0) rfl;have q4:=hA.box.cell 4 (.slice (some ⟨g9,0,none⟩) ps.length cap9) rfl;have q0:=hA.box.cell 0 (.int .i64 0) rfl;have qf:=hA.box.fz;have ql:=hA.box.lt;have hw1:wrap64 (ps.length:Int)=ps.length:=wrap_nat (qi HLs.out (by decide));clear hA hI hg1 hg2 hc1 hc2 hpos hlt hK;by_cases hone:1<ps.length
   ·have d5:decide (1<(ps.length:Int))=true:=by simpa using Int.ofNat_lt.2 hone
    have d6:(1:Int)<(ps.length:Int):=Int.ofNat_lt.2 hone;rw [if_pos hone] at HEq;have HOne:=hid hone;clear hone;go_upto_region 19 with fail
    generalize hW8:World.alloc _ _=w8;have hs8:=ownI_one (wl.setCell ⟨w2.heap.size,3,none⟩ (.slice (some ⟨wl.heap.size,0,none⟩) 1 1)) ps.length;have e1:(wl.setCell ⟨w2.heap.size,3,none⟩ (.slice (some ⟨wl.heap.size,0,none⟩) 1 1)).heap.size=wl.heap.size:=by simp [World.setCell]
    have hlw:w2.heap.size<wl.heap.size:=HA.box.lt;have hb8:Below w2.heap.size wl w8:=by rw [<-hW8];exact ((qb w2.heap.size wl).setCell (p:=⟨w2.heap.size,3,none⟩) (qa _) _).alloc (by rw [e1];exact Nat.le_of_lt hlw) _
    have hX8:=(HA.box.put 3 (.slice (some ⟨wl.heap.size,0,none⟩) 1 1) (by simp [numCs])).alloc (.cells #[.int .i64 (ps.length:Int)] 3);have hz8:wl.heap.size<w8.heap.size:=by rw [<-hW8,heap_new_size,e1];exact Nat.lt_succ_self _
    have hg8:w8.heap[g9]? =wl.heap[g9]? :=by rw [<-hW8,Below.heap_alloc _ _ _ (by rw [e1];exact HGc.out.1.2),qh _ _ _ _ (by have:=HGc.out.1.1;show g9≠w2.heap.size;omega)]
    rw [hW8] at hs8 hX8;rw [e1] at hs8;have r0:=hX8.cell 0 (.int .i64 0) rfl;have rf:=hX8.fz;have rl:=hX8.lt;have HS8:=hid hs8;have HX8:=hid hX8;have HB8:=hid hb8;have HG8:=hid hg8;have HZ8:=hid (And.intro hlw hz8);clear hs8 hX8 hb8 hg8 hz8 hW8 e1 hlw q0 q3 q4 qf ql;go_upto_region 26 with fail
    generalize hW9:World.setCell w8 _ _=w10;have hb10:Below w2.heap.size wl w10:=HB8.trans (hW9▸(qb _ _).setCell (p:=⟨w2.heap.size,0,none⟩) (qa _) _);have hS10:=S2.later (HA.below.trans hb10);have hB10:Bx s w10 w2.heap.size (UV.cells (unitTV ⟨1,⟨#[]⟩,0,some ⟨wl.heap.size,0,none⟩,1,1,some ⟨g9,0,none⟩,ps.length,cap9,none,0,0⟩ (v.at_:Int))):=by
     have h:=HX8.put 0 (.int .i64 1) (by simp [numCs]);rw [hW9] at h;exact ⟨by simpa [numCs,unitTV,UV.cells] using h,(rb_of S2.at_ (qa _)).1,(rb_of S2.at_ (qa _)).2⟩
    have hz10:w10.heap.size=w8.heap.size:=by rw [<-hW9];simp [World.setCell]
    have hk10:∀ b,b=wl.heap.size->w10.heap[b]? =w8.heap[b]? :=fun b hb=>by rw [<-hW9];exact qh _ _ _ _ (by have:=HZ8.out.1;show b≠w2.heap.size;omega)
    have hU10:=Acc.unit S2.out HA.out HI.out HGc.out.1 HGc.out.2 HLs.out hb10 (by rw [<-hW9];exact (qh _ _ _ _ (by have:=HGc.out.1.1;show g9≠w2.heap.size;omega)).trans HG8.out) (HS8.kept (w':=w10) (fun b hb=>hk10 b (by simpa using hb))) (.inr ⟨rfl,by rw [hz10];exact HZ8.out.2⟩) ⟨qa _,qa _⟩;clear r0 rf rl hb10 hW9 hz10;have S10:=hid hS10;have B10:=hid hB10;have U10:=hid hU10;clear hS10 hB10 hU10;have p10c1:=S10.at_.c1;have p10cf:=S10.at_.fz;go_upto_region 27 with fail
    generalize hWn:World.setCell w10 _ _=w11;have hAn:Away s.pb w10.heap.size w10 w11:=hWn▸(Away.refl _ _ _).setCell (q:=⟨s.pb,1,none⟩) (.inl rfl) _;have hPn:=S10.at_.next (n+1) (v:=.int .i64 (wrap64 ((n:Int)+1))) (by rw [HW.out]);rw [hWn] at hPn;have S11:=hid (S10.moved hAn hPn);have B11:=hid (B10.moved hAn);have U11:=hid (U10.moved hAn);clear hAn hPn hWn p10c1 p10cf;obtain ⟨u11c0,u11c1,u11c2,u11c3,u11c4,u11c5,u11c6,u11c7,u11c8⟩:=B11.box.r9 (.int .i64 1) (.string ⟨#[]⟩) (.int .i64 0) (.slice (some ⟨wl.heap.size,0,none⟩) 1 1) (.slice (some ⟨g9,0,none⟩) ps.length cap9) (.slice none 0 0) (.slice none 0 0) (.bool false) (.int .i64 (v.at_:Int)) rfl;have u11cf:=B11.box.fz;have u11cl:=B11.box.lt;obtain ⟨c0,c1,c2,c3,c4,c5,c6,c7,c8⟩:=S11.box.r9 (.int .i64 0) (.string ⟨#[]⟩) (.int .i64 0) (.slice none 0 0) (.slice none 0 0) (.slice none 0 0) (.slice none 0 0) (.bool false) (.int .i64 0) rfl;have cf:=S11.box.fz;have cl:=S11.box.lt;go_wp2_with fail
    refine bodyPost_ret (v:=(unitTV (⟨1,⟨#[]⟩,0,(some ⟨wl.heap.size,0,none⟩),1,1,some ⟨g9,0,none⟩,ps.length,cap9,none,0,0⟩:TV) (v.at_:Int)).val) (by simp [results,Tryz.results123,unitTV,UV.val,UV.cells,c0,c1,c2,c3,c4,c5,c6,c7,c8,cf,go_sem]) rfl ?_;rw [<-HEq.out];exact U11.ends S11.out (Nat.lt_succ_of_lt S2.box.lt) _ _ _ _ _ _ _ _ _
   ·have d5:decide (1<(ps.length:Int))=false:=by simp;omega
    have d6:¬(1:Int)<(ps.length:Int):=by omega
    rw [if_neg hone] at HEq;clear hone;go_upto_region 26 with fail
    generalize hW8:World.setCell wl _ _=w10;have hb10:Below w2.heap.size wl w10:=hW8▸(qb _ _).setCell (p:=⟨w2.heap.size,0,none⟩) (qa _) _;have hS10:=S2.later (HA.below.trans hb10);have hB10:Bx s w10 w2.heap.size (UV.cells (unitTV ⟨1,⟨#[]⟩,0,none,0,0,some ⟨g9,0,none⟩,ps.length,cap9,none,0,0⟩ (v.at_:Int))):=by
     have h:=HA.box.put 0 (.int .i64 1) (by simp [numCs]);rw [hW8] at h;exact ⟨by simpa [numCs,unitTV,UV.cells] using h,(rb_of S2.at_ (qa _)).1,(rb_of S2.at_ (qa _)).2⟩
    have hU10:=Acc.unit S2.out HA.out HI.out HGc.out.1 HGc.out.2 HLs.out hb10 (by rw [<-hW8];exact qh _ _ _ _ (by have:=HGc.out.1.1;show g9≠w2.heap.size;omega)) (ownI_nil w10 3) (.inl rfl) ⟨qa _,by decide⟩;clear q0 q3 q4 qf ql hb10 hW8;have S10:=hid hS10;have B10:=hid hB10;have U10:=hid hU10;clear hS10 hB10 hU10;have p10c1:=S10.at_.c1;have p10cf:=S10.at_.fz;go_upto_region 27 with fail
    generalize hWn:World.setCell w10 _ _=w11;have hAn:Away s.pb w10.heap.size w10 w11:=hWn▸(Away.refl _ _ _).setCell (q:=⟨s.pb,1,none⟩) (.inl rfl) _;have hPn:=S10.at_.next (n+1) (v:=.int .i64 (wrap64 ((n:Int)+1))) (by rw [HW.out]);rw [hWn] at hPn;have S11:=hid (S10.moved hAn hPn);have B11:=hid (B10.moved hAn);have U11:=hid (U10.moved hAn);clear hAn hPn hWn p10c1 p10cf;obtain ⟨u11c0,u11c1,u11c2,u11c3,u11c4,u11c5,u11c6,u11c7,u11c8⟩:=B11.box.r9 (.int .i64 1) (.string ⟨#[]⟩) (.int .i64 0) (.slice none 0 0) (.slice (some ⟨g9,0,none⟩) ps.length cap9) (.slice none 0 0) (.slice none 0 0) (.bool false) (.int .i64 (v.at_:Int)) rfl;have u11cf:=B11.box.fz;have u11cl:=B11.box.lt;obtain ⟨c0,c1,c2,c3,c4,c5,c6,c7,c8⟩:=S11.box.r9 (.int .i64 0) (.string ⟨#[]⟩) (.int .i64 0) (.slice none 0 0) (.slice none 0 0) (.slice none 0 0) (.slice none 0 0) (.bool false) (.int .i64 0) rfl;have cf:=S11.box.fz;have cl:=S11.box.lt;go_wp2_with fail
    refine bodyPost_ret (v:=(unitTV (⟨1,⟨#[]⟩,0,none,0,0,some ⟨g9,0,none⟩,ps.length,cap9,none,0,0⟩:TV) (v.at_:Int)).val) (by simp [results,Tryz.results123,unitTV,UV.val,UV.cells,c0,c1,c2,c3,c4,c5,c6,c7,c8,cf,go_sem]) rfl ?_;rw [<-HEq.out];exact U11.ends S11.out (Nat.lt_succ_of_lt S2.box.lt) _ _ _ _ _ _ _ _ _
end Pz
open Go.RowKit
namespace Pz
theorem brk_step {s:PS} {f g n o ub:Nat} {v:W} {w0 w:World} (hbr:CBracket s f) (hg:g<=f) (hS:Start s w0 n o (unitCs zeroY v.at_) ub w) (hL:Lo s w0 ub (ub+1)) (hD:Deep o) (hnl:n<=s.ws.length) (hn:need s.ws n 9<=g+1) (hat:v.at_<=s.e) (h1:v.text=[40]):
 Calls Tryz.prog 156 #[ptr s,wordV v,.pointer (some ⟨ub,0,none⟩)] w (PB 61 s w0 ub o (within s.ws s.e (g+1) v n o)):=by
 obtain ⟨m0,hm0,hmz0,hmz1,hmz2⟩:=info_parts info_term1;obtain ⟨R0,hR0⟩:∃ R0,within s.ws s.e (g+1) v n o=R0:=⟨_,rfl⟩;rw [hR0];have HOk:=hid hS.at_.ok;have HG:=hid hg;have HN:=hid hn;have HNL:=hid hnl;have HDp:=hid hD;have S0:=hid hS;have L0:=hid hL;unfold ptr wordV;have HBR:=hid hbr;have HAt:=hid hat;rw [within,if_pos h1] at hR0;have d1:((bytes v.text).toList==[40])=true:=by rw [text_beq];simp [h1]
 have HC:=hid (fun W (h:Start s w0 n o (unitCs zeroY v.at_) ub W)=>HBR.out g HG.out v n o ub w0 W h L0.out HAt.out HDp.out (by have:=HN.out;unfold need at*;omega));unfold ptr at HC;rw [hR0] at HC;clear h1 hbr hat hg hS hL hD hnl hn hR0;go_enter Tryz.func156,Tryz.ntmps156
 go_upto_region 1 with fail
 generalize hWa:World.alloc w _=w1;have hba:Below w.heap.size w w1:=hWa▸(qb _ _).alloc (qa _) _;have X1:=hid (show Bx s w1 w.heap.size (wcells v) from by rw [<-hWa];exact Bx.new S0.out _ _);have S1:=hid (S0.later hba);clear hba hWa;obtain ⟨x1c0,x1c1,x1c2⟩:=X1.box.rv v rfl;have x1cf:=X1.box.fz;have x1cl:=X1.box.lt;cases R0 with
 |bad c p=>
  go_wp2_with (go_at_call 192;refine (HC.out _ (S1.later (by go_grown))).mono ?_;intro e w9 hp;obtain ⟨rfl,hA⟩:=hp)
  all_goals exact ⟨rfl,rfl,hA⟩
 |ok r=>
  obtain ⟨u,m⟩:=r;go_wp2_with (go_at_call 192;refine (HC.out _ (S1.later (by go_grown))).mono ?_;intro e w9 hp;obtain ⟨x,G,rfl,hB,hO,hG⟩:=hp)
  all_goals
   refine bodyPost_ret (v:=.tuple #[]) (by simp [results,Tryz.results156,go_sem]) rfl ?_;exact ⟨x,G,rfl,hB,hO,hG⟩
theorem within_step {s:PS} {f:Nat} (hnn:CNoun s f) (hbd:CBody s f) (hbr:CBracket s f):CWith s (f+1):=by
 intro g hg v n o ub w0 w hS hL hat hD hnl hn;cases g with
 |zero=>unfold need at hn;omega
 |succ g=>
  by_cases h1:v.text=[40]
  ·exact brk_step hbr (by omega) hS hL hD hnl hn hat h1
  ·by_cases h2:v.text=[112,105,99,107,46]
   ·exact pick_step hnn (by omega) hS hL hD hnl hn h2
   ·exact def_step hbd (by omega) hS hL hD hnl hn h1 h2
theorem primary_step {s:PS} {f:Nat} (hwi:CWith s f):CPrimary s (f+1):=by
 intro g hg n o w hP hD hnl hn;cases g with
 |zero=>unfold need at hn;omega
 |succ g=>
  obtain ⟨v,hv⟩:∃ v,s.ws[n]? =some v:=⟨_,List.getElem?_eq_getElem hnl⟩;have hk1:=(hP.ok.word n v hv).2.k1;by_cases h1:v.kind=1
  ·exact primn_step (f:=f) (by omega) hP hD hv hn h1
  by_cases h2:v.kind=2
  ·exact prim2_step (f:=f) (by omega) hP hD hv hn h2
  by_cases h3:v.kind=3
  ·exact prim3_step (f:=f) (by omega) hP hD hv hn h3
  by_cases h4:v.kind=4
  ·exact prim4_step (f:=f) (by omega) hP hD hv hn h4
  exact primo_step hwi (by omega) hP hD hv hn (by omega)
structure CAll (s:PS) (f:Nat):Prop where
 primary:CPrimary s f
 side:CSide s f
 behind:CBehind s f
 either:CEither s f
 conj:CConj s f
 unit:CUnit s f
 from_:CFrom s f
 phrase:CPhrase s f
 noun:CNoun s f
 sentence:CSent s f
 body:CBody s f
 bracket:CBracket s f
 within:CWith s f
theorem call_zero (s:PS):CAll s 0:=by
 refine ⟨?_,?_,?_,?_,?_,?_,?_,?_,?_,?_,?_,?_,?_⟩
 ·intro g hg n o w _ _ _ hn;unfold need at hn;omega
 ·intro g hg n o w _ _ hn;unfold need at hn;omega
 ·intro g hg n o w _ _ hn;unfold need at hn;omega
 ·intro g hg v n o u x F kv ko w _ _ _ hn;unfold need at hn;omega
 ·intro g hg v n o u x F w _ _ _ _ hn;unfold need at hn;omega
 ·intro g hg n o w _ _ _ hn;unfold need at hn;omega
 ·intro g hg n o v l xs Fs w _ _ _ _ _ _ _ _ _ hn;unfold need at hn;omega
 ·intro g hg n o w _ _ hn;unfold need at hn;omega
 ·intro g hg n o w _ _ hn;unfold need at hn;omega
 ·intro g hg n o w _ _ _ hn;unfold need at hn;omega
 ·intro g hg n o w _ _ _ hn;unfold need at hn;omega
 ·intro g hg v n o ub w0 w _ _ _ _ hn;unfold need at hn;omega
 ·intro g hg v n o ub w0 w _ _ _ _ _ hn;unfold need at hn;omega
theorem call_all (s:PS):∀ f,CAll s f
 |0=>call_zero s
 |f+1=>by
  have h:=call_all s f;exact ⟨primary_step h.within,side_step h.primary,behind_step h.side,either_step h.side,conj_step h.behind h.either,unit_step h.primary h.conj,from_step h.unit,phrase_step h.from_,noun_step h.phrase,sentence_step h.noun h.body,body_step h.sentence,bracket_step h.unit h.from_,within_step h.noun h.body h.bracket⟩
end Pz
end Go.Proofs.YtimcmghhbdfjfaaGreatDoor
