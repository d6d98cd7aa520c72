/- Layer 15's law. -/
import Derived.Test.YtimcmghhbdfjfaaGreatDoorQPyAQ
import Derived.Test.YtimcmghhbdfjfaaGreatDoorQQqH
set_option linter.unusedVariables false
set_option linter.unusedSimpArgs false
set_option maxRecDepth 100000
set_option maxHeartbeats 1000000
namespace Go.Proofs.YtimcmghhbdfjfaaGreatDoor
open Go.RowKit
namespace Pz
theorem begun_cut:cut [97,32,61,58,32,53]=.ok [⟨2,[97],0⟩,⟨7,[61,58],2⟩,⟨1,[53],5⟩]:=by kernel_rfl
theorem begun_three:line [97,32,61,58,32,53]=.ok (.named 2 [97] (.mk 1 ⟨#[]⟩ 0 [] [5] [])):=by kernel_rfl
theorem kid_one {w:World} {k:Int} {t:T} {l:List T} {y:TV} {G:List Nat} (h:Own w (made k (t::l)) y G):∃ (text:ByteArray) (n:Int) (sa:Option Addr) (sl sc:Nat) (aa:Option Addr) (al ac b kc:Nat),y=⟨k,text,n,sa,sl,sc,aa,al,ac,some ⟨b,0,none⟩,l.length+1,kc⟩/\w.cell? ⟨b,0,none⟩=some (.int .i64 t.kind)/\b<w.heap.size:=by
 obtain ⟨kind,text,n,sa,sl,sc,aa,al,ac,ka,kl,kc⟩:=y;unfold made at h;simp only [Own] at h;obtain ⟨h1,h2,h3,h4,h5,F1,F2,F3,F4,rfl,h6,h7,h8,h9⟩:=h;simp only [OwnL] at h9;obtain ⟨F5,F6,rfl,⟨b,x,hb,hat,ho⟩,hr⟩:=h9
 (try dsimp only at h2 h5 hb)
 subst h2;subst hb;rw [List.length_cons] at h5;subst h5;have hc:=hat.c0;rw [own_kind ho] at hc;simp only [Nat.zero_mul] at hc;exact ⟨_,_,_,_,_,_,_,_,_,_,rfl,hc,qc _ _ hc⟩
theorem kind_is {w:World} {t:T} {y:TV} {G:List Nat} {k:Int} (h:Own w t y G) (hk:t.kind=k):∃ (text:ByteArray) (n:Int) (sa:Option Addr) (sl sc:Nat) (aa:Option Addr) (al ac:Nat) (ka:Option Addr) (kl kc:Nat),y=⟨k,text,n,sa,sl,sc,aa,al,ac,ka,kl,kc⟩:=by
 have:=own_kind h;obtain ⟨kind,text,n,sa,sl,sc,aa,al,ac,ka,kl,kc⟩:=y
 (try dsimp only at this)
 rw [hk] at this;subst this;exact ⟨_,_,_,_,_,_,_,_,_,_,_,rfl⟩
theorem begun_calls (w:World) (hv:Vars w):Calls Tryz.prog 6 #[] w fun e w'=>e=.returned (.bool true)/\Below w.heap.size w w':=by
 have h1:=verbF_calls ⟨#[43,47,32,37,32,35]⟩ w hv;rw [show bl ⟨#[43,47,32,37,32,35]⟩=[43,47,32,37,32,35] from rfl,begun_one] at h1;have h2:=fun W (h:Vars W)=>nounF_calls ⟨#[50,32,43]⟩ W h;rw [show bl ⟨#[50,32,43]⟩=[50,32,43] from rfl,begun_two] at h2;have h3:=fun W (h:Vars W)=>line_c4 ⟨#[97,32,61,58,32,53]⟩ W h (by decide) (by decide) begun_cut rfl rfl ⟨rfl,rfl⟩ rfl;rw [show bl ⟨#[97,32,61,58,32,53]⟩=[97,32,61,58,32,53] from rfl,begun_three] at h3;have H1:=hid h1;have H2:=hid h2;have H3:=hid h3;have HV:=hid hv;clear h1 h2 h3 hv;go_enter Tryz.func6,Tryz.ntmps6
 go_upto_region 2 with (go_at_call 9;refine H1.mono ?_;intro e w1 hp;obtain ⟨y,G,rfl,hO,hG,hb⟩:=hp;obtain ⟨text,n,sa,sl,sc,aa,al,ac,b,kc,rfl,hk,hbl⟩:=kid_one hO;have HK:=hid hk;have HB1:=hid hb;have HBl:=hid hbl;clear hO hG hb hk hbl;simp only [TV.val,TV.cells])
 generalize hW2:World.alloc w1 _=w2;have hb2:Below w1.heap.size w1 w2:=hW2▸(qb _ _).alloc (qa _) _;have X2:=hid (show Boxd w2 w1.heap.size #[.int .i64 45,.string text,.int .i64 n,.slice sa sl sc,.slice aa al ac,.slice (some ⟨b,0,none⟩) 3 kc] from hW2▸Boxd.new w1 _ 28);have K2:=hid (show w2.cell? ⟨b,0,none⟩=some (.int .i64 24) from (cell_of_heap (hb2.block b HBl.out)).trans HK.out);have HB2:=hid (HB1.trans (hb2.mono HB1.size));have HV2:=hid (HV.later HB2.out (qa _));clear hW2 hb2;go_upto_region 3 with (go_at_call 10;refine (H2.out _ HV2.out).mono ?_;intro e w3 hp;obtain ⟨rfl,hb⟩:=hp;have HB3:=hid hb;clear hb;simp only [zeroTerm])
 generalize hW4:World.alloc w3 _=w4;have hb4:Below w2.heap.size w2 w4:=hW4▸HB3.trans (((qb _ _).alloc (qa _) _).mono HB3.size);have X4:=hid (X2.later hb4);have K4:=hid (show w4.cell? ⟨b,0,none⟩=some (.int .i64 24) from (cell_of_heap (hb4.block b (qc _ _ K2.out))).trans K2.out);have HB4:=hid (HB2.trans (hb4.mono HB2.size));have HV4:=hid (HV2.later hb4 (qa _));clear hW4 hb4;go_upto_region 4 with (go_at_call 13;refine (H3.out _ HV4.out).mono ?_;intro e w5 hp;obtain ⟨v,rfl,⟨y2,G2,rfl,hO,hG⟩,hb⟩:=hp;obtain ⟨text2,n2,sa2,sl2,sc2,aa2,al2,ac2,ka2,kl2,kc2,rfl⟩:=kind_is (k:=1) hO rfl;have HB5:=hid hb;clear hO hG hb;simp only [lineV])
 generalize hW6:World.alloc w5 _=w6;have hb6:Below w4.heap.size w4 w6:=hW6▸HB5.trans (((qb _ _).alloc (qa _) _).mono HB5.size);have X6:=hid (X4.later hb6);have L6:=hid (show Boxd w6 w5.heap.size #[.int .i64 2,.string (bytes [97]),.int .i64 1,.string text2,.int .i64 n2,.slice sa2 sl2 sc2,.slice aa2 al2 ac2,.slice ka2 kl2 kc2,.slice none 0 0] from hW6▸Boxd.new w5 _ 40);have K6:=(show w6.cell? ⟨b,0,none⟩=some (.int .i64 24) from (cell_of_heap (hb6.block b (qc _ _ K4.out))).trans K4.out);have HB6:=hid (HB4.trans (hb6.mono HB4.size));clear hW6 hb6;have x0:=X6.cell 0 (.int .i64 45) rfl;have x5:=X6.cell 5 (.slice (some ⟨b,0,none⟩) 3 kc) rfl;have l0:=L6.cell 0 (.int .i64 2) rfl;have l1:=L6.cell 1 (.string (bytes [97])) rfl;have l2:=L6.cell 2 (.int .i64 1) rfl;have t97:((bytes [97]).toList==[97])=true:=by rw [text_beq];rfl
 go_wp2_with fail
 go_ret;exact ⟨rfl,HB6.out⟩
end Pz
open Go.RowKit
namespace Pz
theorem text_is {t:T} {c:Int} (h:T.may t c=0):(c=3->Pp.text t=Pp.phrase t)/\(c=1->Pp.text t=Pp.noun t):=by
 have hc:=(Pp.may_parts h).2.2;refine ⟨fun e=>?_,fun e=>?_⟩
 ·unfold Pp.text;rw [if_pos (hc.trans e)]
 ·unfold Pp.text;rw [if_neg (by rw [hc,e];decide)]
theorem read_is {t:T} {c:Int} (h:T.may t c=0) (hc:c=1\/c=3) (hr:Pp.rng t=true) {k:Nat} (hk:k+2*t.height<=512) (hl:(Pp.rn (Pp.brN k (Pp.text t))).length<=1048576):
 read (Pp.rn (Pp.brN k (Pp.text t))) c=.ok t/\∀ c',c'≠c->read (Pp.rn (Pp.brN k (Pp.text t))) c'=.bad 5 0:=by
 have hcl:=(Pp.may_parts h).2.2;have hrd:=Pp.reads_brackets h hc hr k hk;refine ⟨?_,fun c' h'=>?_⟩
 ·rw [hrd.read hl c,if_neg (by rw [hcl];simp),if_neg (by rw [h];simp)]
 ·rw [hrd.read hl c',if_pos (by rw [hcl];exact fun e=>h' e.symm)]
theorem high_is {t:T} {c:Int} (h:T.may t c=0):0+2*t.height<=512:=by
 have:=(Pp.may_parts h).1.2;omega
section
variable {t:T} {x:TV} {w W:World}
theorem rep_at (hr:Rep w w.heap.size t x) (hB:Below w.heap.size w W):Rep W W.heap.size t x:=Rep.mono hB.size t x (hr.below hB (qa _))
theorem may_at (hr:Rep w w.heap.size t x) (hB:Below w.heap.size w W) (c:Int):Calls Tryz.prog 7 #[x.val,.int .i64 c] W fun e w'=>e=.returned (.int .i64 (T.may t c))/\Below W.heap.size W w':=mayAt_of c hr W hB
theorem tabs_at (hT:Tabs w.heap.size w) (hB:Below w.heap.size w W):Tabs W.heap.size W:=fun w' h'=>hT w' (hB.trans (h'.mono hB.size))
theorem pverb_ok (hr:Rep w w.heap.size t x) (hg:Pp.rng t=true) (hT:Tabs w.heap.size w) (hB:Below w.heap.size w W) (h:T.may t 3=0) (hl:(Pp.rn (Pp.text t)).length<=1048576):
 Calls Tryz.prog 8 #[x.val] W fun e w'=>e=.returned (.tuple #[.string (bytes (Pp.rn (Pp.text t))),.int .i64 0])/\Below W.heap.size W w':=by
 refine (printVerb_of (rep_at hr hB) (mayAt_of 3 (rep_at hr hB)) hg (tabs_at hT hB)).mono ?_;rintro e w' ⟨rfl,hb⟩;rw [<-(text_is h).1 rfl,h,if_pos ⟨rfl,hl⟩,if_pos rfl,if_pos hl];exact ⟨rfl,hb⟩
theorem pverb_long (hr:Rep w w.heap.size t x) (hg:Pp.rng t=true) (hT:Tabs w.heap.size w) (hB:Below w.heap.size w W) (h:T.may t 3=0) (hl:¬(Pp.rn (Pp.text t)).length<=1048576):
 Calls Tryz.prog 8 #[x.val] W fun e w'=>e=.returned (.tuple #[.string ⟨#[]⟩,.int .i64 2])/\Below W.heap.size W w':=by
 refine (printVerb_of (rep_at hr hB) (mayAt_of 3 (rep_at hr hB)) hg (tabs_at hT hB)).mono ?_;rintro e w' ⟨rfl,hb⟩;rw [<-(text_is h).1 rfl,h,if_neg (fun q=>hl q.2),if_pos rfl,if_neg hl];exact ⟨rfl,hb⟩
theorem pnoun_ok (hr:Rep w w.heap.size t x) (hg:Pp.rng t=true) (hT:Tabs w.heap.size w) (hB:Below w.heap.size w W) (h:T.may t 1=0) (hl:(Pp.rn (Pp.text t)).length<=1048576):
 Calls Tryz.prog 12 #[x.val] W fun e w'=>e=.returned (.tuple #[.string (bytes (Pp.rn (Pp.text t))),.int .i64 0])/\Below W.heap.size W w':=by
 refine (printNoun_of (rep_at hr hB) (mayAt_of 1 (rep_at hr hB)) hg (tabs_at hT hB)).mono ?_;rintro e w' ⟨rfl,hb⟩;rw [<-(text_is h).2 rfl,h,if_pos ⟨rfl,hl⟩,if_pos rfl,if_pos hl];exact ⟨rfl,hb⟩
theorem pnoun_long (hr:Rep w w.heap.size t x) (hg:Pp.rng t=true) (hT:Tabs w.heap.size w) (hB:Below w.heap.size w W) (h:T.may t 1=0) (hl:¬(Pp.rn (Pp.text t)).length<=1048576):
 Calls Tryz.prog 12 #[x.val] W fun e w'=>e=.returned (.tuple #[.string ⟨#[]⟩,.int .i64 2])/\Below W.heap.size W w':=by
 refine (printNoun_of (rep_at hr hB) (mayAt_of 1 (rep_at hr hB)) hg (tabs_at hT hB)).mono ?_;rintro e w' ⟨rfl,hb⟩;rw [<-(text_is h).2 rfl,h,if_neg (fun q=>hl q.2),if_pos rfl,if_neg hl];exact ⟨rfl,hb⟩
theorem pnoun_no (hr:Rep w w.heap.size t x) (hg:Pp.rng t=true) (hT:Tabs w.heap.size w) (hB:Below w.heap.size w W) (h:T.may t 1≠0):
 Calls Tryz.prog 12 #[x.val] W fun e w'=>e=.returned (.tuple #[.string ⟨#[]⟩,.int .i64 (T.may t 1)])/\Below W.heap.size W w':=by
 refine (printNoun_of (rep_at hr hB) (mayAt_of 1 (rep_at hr hB)) hg (tabs_at hT hB)).mono ?_;rintro e w' ⟨rfl,hb⟩;rw [if_neg (fun q=>h q.1),if_neg h];exact ⟨rfl,hb⟩
theorem same_at {y:TV} {c:Int} (h:T.may t c=0) (hx:Rep W W.heap.size t x) (hy:Rep W W.heap.size t y):Calls Tryz.prog 11 #[x.val,y.val] W fun e w'=>e=.returned (.bool true)/\Below W.heap.size W w':=
 Same_calls hx hy (smallAt_of (Pp.may_parts h).1 hx) (smallAt_of (Pp.may_parts h).1 hy)
end
section
variable {t:T} {S:ByteArray} {W:World}
theorem vread_ok (hv:Vars W) (h:read (bl S) 3=.ok t):Calls Tryz.prog 9 #[.string S] W fun e w'=>∃ y,e=.returned (.tuple #[TV.val y,.int .i64 0,.int .i64 0])/\Rep w' w'.heap.size t y/\Below W.heap.size W w':=by
 have hc:=verbF_calls S W hv;rw [h] at hc;refine hc.mono ?_;rintro e w' ⟨y,G,rfl,hO,hG,hb⟩;exact ⟨y,rfl,Own.rep t y G hO (own_lt t y G hO),hb⟩
theorem vread_bad (hv:Vars W) (h:read (bl S) 3=.bad 5 0):Calls Tryz.prog 9 #[.string S] W fun e w'=>e=.returned (.tuple #[zeroTerm,.int .i64 0,.int .i64 5])/\Below W.heap.size W w':=by
 have hc:=verbF_calls S W hv;rw [h] at hc;exact hc
theorem nread_ok (hv:Vars W) (h:read (bl S) 1=.ok t):Calls Tryz.prog 10 #[.string S] W fun e w'=>∃ y,e=.returned (.tuple #[TV.val y,.int .i64 0,.int .i64 0])/\Rep w' w'.heap.size t y/\Below W.heap.size W w':=by
 have hc:=nounF_calls S W hv;rw [h] at hc;refine hc.mono ?_;rintro e w' ⟨y,G,rfl,hO,hG,hb⟩;exact ⟨y,rfl,Own.rep t y G hO (own_lt t y G hO),hb⟩
theorem nread_bad (hv:Vars W) (h:read (bl S) 1=.bad 5 0):Calls Tryz.prog 10 #[.string S] W fun e w'=>e=.returned (.tuple #[zeroTerm,.int .i64 0,.int .i64 5])/\Below W.heap.size W w':=by
 have hc:=nounF_calls S W hv;rw [h] at hc;exact hc
end
end Pz
end Go.Proofs.YtimcmghhbdfjfaaGreatDoor
