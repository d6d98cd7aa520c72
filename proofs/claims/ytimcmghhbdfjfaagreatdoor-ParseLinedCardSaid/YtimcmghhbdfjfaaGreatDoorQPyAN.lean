/- Package parse. -/
import Derived.Test.YtimcmghhbdfjfaaGreatDoorQPyAK
set_option linter.unusedVariables false
set_option linter.unusedSimpArgs false
set_option maxRecDepth 100000
namespace Go.Proofs.YtimcmghhbdfjfaaGreatDoor
open Go.RowKit
namespace Pz
def lineV (k:Int) (n:ByteArray) (y:TV) (args:Value):Value:=.agg #[.int .i64 k,.string n,.int .i64 y.kind,.string y.text,.int .i64 y.n,.slice y.sa y.sl y.sc,.slice y.aa y.al y.ac,.slice y.ka y.kl y.kc,args]
def ArgsAt (w w':World) (a:Option (List UInt8)) (av:Value):Prop:=
 match a with
 |none=>av=.slice none 0 0
 |some s=>∃ b,av=.slice (some ⟨b,0,none⟩) 1 1/\w'.cell? ⟨b,0,none⟩=some (.string (bytes s))/\w.heap.size<=b
def PL (w:World) (l:L) (v:Value) (w':World):Prop:=
 match l with
 |.none=>v=lineV 0 ⟨#[]⟩ zeroTV (.slice none 0 0)
 |.noun t=>∃ y G,v=lineV 1 ⟨#[]⟩ y (.slice none 0 0)/\Own w' t y G/\From [] w.heap.size w'.heap.size G
 |.named k n t=>∃ y G,v=lineV k (bytes n) y (.slice none 0 0)/\Own w' t y G/\From [] w.heap.size w'.heap.size G
 |.request n a=>∃ av,v=lineV 4 (bytes n) zeroTV av/\ArgsAt w w' a av
def PLine (w:World) (r:R L) (e:Ending) (w':World):Prop:=
 match r with
 |.ok l=>∃ v,e=.returned (.tuple #[v,.int .i64 0,.int .i64 0])/\PL w l v w'/\Below w.heap.size w w'
 |.bad c p=>e=.returned (.tuple #[lineV 0 ⟨#[]⟩ zeroTV (.slice none 0 0),.int .i64 p,.int .i64 c])/\Below w.heap.size w w'
abbrev lineZ:Array Value:=#[.int .i64 0,.string ⟨#[]⟩,.int .i64 0,.string ⟨#[]⟩,.int .i64 0,.slice none 0 0,.slice none 0 0,.slice none 0 0,.slice none 0 0]
end Pz
open Go.RowKit
namespace Pz
theorem set_sixB {B:Nat} {w w0:World} (h:Below B w w0) {b:Nat} (hb:B<=b) (v0 v1 v2 v3 v4 v5:Value):Below B w ((((((w0.setCell ⟨b,0,none⟩ v0).setCell ⟨b,1,none⟩ v1).setCell ⟨b,2,none⟩ v2).setCell ⟨b,3,none⟩ v3).setCell ⟨b,4,none⟩ v4).setCell ⟨b,5,none⟩ v5):=
 (((((h.setCell (p:=⟨b,0,none⟩) hb v0).setCell (p:=⟨b,1,none⟩) hb v1).setCell (p:=⟨b,2,none⟩) hb v2).setCell (p:=⟨b,3,none⟩) hb v3).setCell (p:=⟨b,4,none⟩) hb v4).setCell (p:=⟨b,5,none⟩) hb v5
theorem own_six {w0:World} {t:T} {y:TV} {G:List Nat} (h:Own w0 t y G) {b:Nat} (hb:b ∉ G) (v0 v1 v2 v3 v4 v5:Value):Own ((((((w0.setCell ⟨b,0,none⟩ v0).setCell ⟨b,1,none⟩ v1).setCell ⟨b,2,none⟩ v2).setCell ⟨b,3,none⟩ v3).setCell ⟨b,4,none⟩ v4).setCell ⟨b,5,none⟩ v5) t y G:=
 own_set (own_set (own_set (own_set (own_set (own_set h hb v0) hb v1) hb v2) hb v3) hb v4) hb v5
theorem verbF_calls (S:ByteArray) (w:World) (hv:Vars w):Calls Tryz.prog 9 #[.string S] w (PRead w (read (bl S) 3)):=by
 have X0:=hid (Boxd.new w zeroT 28);have HB0:=hid ((qb w.heap.size w).alloc (qa _) (.cells zeroT 28));generalize hw0:w.alloc (.cells zeroT 28)=w0 at X0 HB0;have HW0:=hid hw0;have HV0:=hid (hv.later HB0.out (qa _));have HRd:=hid (read_calls S 3 w0 HV0.out);clear hw0 hv;obtain ⟨R0,hR0⟩:∃ R0,read (bl S) 3=R0:=⟨_,rfl⟩;rw [hR0] at HRd ⊢;clear hR0;cases R0 with
 |ok t=>
  go_enter Tryz.func9,Tryz.ntmps9
  go_upto_region 1 with fail
  rw [HW0.out];go_wp2_with (go_at_call 20;refine HRd.mono ?_;intro e w1 hp;obtain ⟨y,G,rfl,hO,hG,hb⟩:=hp;have X1:=hid (X0.later hb);have HB1:=hid (HB0.trans (hb.mono HB0.size));have HO:=hid hO;have HG:=hid hG;have HS:=hid hb.size;clear hO hG hb;simp only [TV.val,TV.cells];obtain ⟨c0,c1,c2,c3,c4,c5⟩:=X1.rz rfl;have cf:=X1.fz;have cl:=X1.lt)
  refine bodyPost_ret (v:=.tuple #[y.val,.int .i64 0,.int .i64 0]) (by simp [results,Tryz.results9,TV.val,TV.cells,c0,c1,c2,c3,c4,c5,cf,go_sem]) rfl ?_;exact ⟨y,G,rfl,own_six HO.out (HG.not_mem (by simp) X0.lt) _ _ _ _ _ _,(HG.mono HB0.size (by simp [World.setCell])),set_sixB HB1.out (qa _) _ _ _ _ _ _⟩
 |bad c p=>
  go_enter Tryz.func9,Tryz.ntmps9
  go_upto_region 1 with fail
  rw [HW0.out];go_wp2_with (go_at_call 20;refine HRd.mono ?_;intro e w1 hp;obtain ⟨rfl,hb⟩:=hp;have X1:=hid (X0.later hb);have HB1:=hid (HB0.trans (hb.mono HB0.size));clear hb;obtain ⟨c0,c1,c2,c3,c4,c5⟩:=X1.rz rfl;have cf:=X1.fz;have cl:=X1.lt)
  refine bodyPost_ret (v:=.tuple #[zeroTerm,.int .i64 p,.int .i64 c]) (by simp [results,Tryz.results9,TV.val,TV.cells,c0,c1,c2,c3,c4,c5,cf,go_sem]) rfl ?_;exact ⟨rfl,set_sixB HB1.out (qa _) _ _ _ _ _ _⟩
theorem nounF_calls (S:ByteArray) (w:World) (hv:Vars w):Calls Tryz.prog 10 #[.string S] w (PRead w (read (bl S) 1)):=by
 have X0:=hid (Boxd.new w zeroT 28);have HB0:=hid ((qb w.heap.size w).alloc (qa _) (.cells zeroT 28));generalize hw0:w.alloc (.cells zeroT 28)=w0 at X0 HB0;have HW0:=hid hw0;have HV0:=hid (hv.later HB0.out (qa _));have HRd:=hid (read_calls S 1 w0 HV0.out);clear hw0 hv;obtain ⟨R0,hR0⟩:∃ R0,read (bl S) 1=R0:=⟨_,rfl⟩;rw [hR0] at HRd ⊢;clear hR0;cases R0 with
 |ok t=>
  go_enter Tryz.func10,Tryz.ntmps10
  go_upto_region 1 with fail
  rw [HW0.out];go_wp2_with (go_at_call 20;refine HRd.mono ?_;intro e w1 hp;obtain ⟨y,G,rfl,hO,hG,hb⟩:=hp;have X1:=hid (X0.later hb);have HB1:=hid (HB0.trans (hb.mono HB0.size));have HO:=hid hO;have HG:=hid hG;have HS:=hid hb.size;clear hO hG hb;simp only [TV.val,TV.cells];obtain ⟨c0,c1,c2,c3,c4,c5⟩:=X1.rz rfl;have cf:=X1.fz;have cl:=X1.lt)
  refine bodyPost_ret (v:=.tuple #[y.val,.int .i64 0,.int .i64 0]) (by simp [results,Tryz.results10,TV.val,TV.cells,c0,c1,c2,c3,c4,c5,cf,go_sem]) rfl ?_;exact ⟨y,G,rfl,own_six HO.out (HG.not_mem (by simp) X0.lt) _ _ _ _ _ _,(HG.mono HB0.size (by simp [World.setCell])),set_sixB HB1.out (qa _) _ _ _ _ _ _⟩
 |bad c p=>
  go_enter Tryz.func10,Tryz.ntmps10
  go_upto_region 1 with fail
  rw [HW0.out];go_wp2_with (go_at_call 20;refine HRd.mono ?_;intro e w1 hp;obtain ⟨rfl,hb⟩:=hp;have X1:=hid (X0.later hb);have HB1:=hid (HB0.trans (hb.mono HB0.size));clear hb;obtain ⟨c0,c1,c2,c3,c4,c5⟩:=X1.rz rfl;have cf:=X1.fz;have cl:=X1.lt)
  refine bodyPost_ret (v:=.tuple #[zeroTerm,.int .i64 p,.int .i64 c]) (by simp [results,Tryz.results10,TV.val,TV.cells,c0,c1,c2,c3,c4,c5,cf,go_sem]) rfl ?_;exact ⟨rfl,set_sixB HB1.out (qa _) _ _ _ _ _ _⟩
theorem Three.line {w0 W:World} {a0 a1 a2 a3 a4 a5 a6 a7 a8:Value} {a e:Int} (h:Three w0 #[a0,a1,a2,a3,a4,a5,a6,a7,a8] a e W) (v0 v1 v2 v3 v4 v5 v6 v7 v8:Value):
 Three w0 #[v0,v1,v2,v3,v4,v5,v6,v7,v8] a e (((((((((W.setCell ⟨w0.heap.size,0,none⟩ v0).setCell ⟨w0.heap.size,1,none⟩ v1).setCell ⟨w0.heap.size,2,none⟩ v2).setCell ⟨w0.heap.size,3,none⟩ v3).setCell ⟨w0.heap.size,4,none⟩ v4).setCell ⟨w0.heap.size,5,none⟩ v5).setCell ⟨w0.heap.size,6,none⟩ v6).setCell ⟨w0.heap.size,7,none⟩ v7).setCell ⟨w0.heap.size,8,none⟩ v8):=by
 have e:(#[v0,v1,v2,v3,v4,v5,v6,v7,v8]:Array Value)=((((((((((#[a0,a1,a2,a3,a4,a5,a6,a7,a8]:Array Value).setIfInBounds 0 v0).setIfInBounds 1 v1).setIfInBounds 2 v2).setIfInBounds 3 v3).setIfInBounds 4 v4).setIfInBounds 5 v5).setIfInBounds 6 v6).setIfInBounds 7 v7).setIfInBounds 8 v8):=by simp
 rw [e];have h0:=h.set0 0 (by simp) v0;have h1:=h0.set0 1 (by simp) v1;have h2:=h1.set0 2 (by simp) v2;have h3:=h2.set0 3 (by simp) v3;have h4:=h3.set0 4 (by simp) v4;have h5:=h4.set0 5 (by simp) v5;have h6:=h5.set0 6 (by simp) v6;have h7:=h6.set0 7 (by simp) v7;exact h7.set0 8 (by simp) v8
theorem eleven_rest {W:World} {z:Nat} (b:Nat) (hb:z+3<=b) (v0 v1 v2 v3 v4 v5 v6 v7 v8 u1 u2:Value):(((((((((((W.setCell ⟨z,0,none⟩ v0).setCell ⟨z,1,none⟩ v1).setCell ⟨z,2,none⟩ v2).setCell ⟨z,3,none⟩ v3).setCell ⟨z,4,none⟩ v4).setCell ⟨z,5,none⟩ v5).setCell ⟨z,6,none⟩ v6).setCell ⟨z,7,none⟩ v7).setCell ⟨z,8,none⟩ v8).setCell ⟨z+1,0,none⟩ u1).setCell ⟨z+1+1,0,none⟩ u2).heap[b]? =W.heap[b]? :=by
 rw [qh _ _ _ _ (by simp;omega),qh _ _ _ _ (by simp;omega),qh _ _ _ _ (by simp;omega),qh _ _ _ _ (by simp;omega),qh _ _ _ _ (by simp;omega),qh _ _ _ _ (by simp;omega),qh _ _ _ _ (by simp;omega),qh _ _ _ _ (by simp;omega),qh _ _ _ _ (by simp;omega),qh _ _ _ _ (by simp;omega),qh _ _ _ _ (by simp;omega)]
theorem line_req {s:List UInt8} (h:¬4096<s.length) (h2:s[span (·==32) s]? =some 41):line s=request s (span (·==32) s):=by
 unfold line;rw [if_neg h];dsimp only;rw [if_pos h2]
def ofWords (s:List UInt8) (ws:List W):R L:=
 match ws with
 |[]=>.ok .none
 |w::q=>
  match q with
  |v::_=>
   if v.kind=7/\v.text=[61,58] then
    if w.kind≠2/\w.kind≠3 then .bad 32 w.at_
    else (all ws s.length 2 (if w.kind=3 then 3 else 1) (place ws s.length 2)).andThen fun t=>.ok (.named w.kind w.text t)
   else (all ws s.length 0 1 (place ws s.length 0)).andThen fun t=>.ok (.noun t)
  |[]=>(all ws s.length 0 1 (place ws s.length 0)).andThen fun t=>.ok (.noun t)
theorem line_words {s:List UInt8} (h:¬4096<s.length) (h2:¬s[span (·==32) s]? =some 41):line s=(cut s).andThen (ofWords s):=by
 unfold line;rw [if_neg h];dsimp only;rw [if_neg h2];rfl
theorem of_noun {s:List UInt8} {ws:List W} (h0:ws≠[]) (h1:∀ v,ws[1]? =some v->¬(v.kind=7/\v.text=[61,58])):ofWords s ws=(all ws s.length 0 1 (place ws s.length 0)).andThen fun t=>.ok (.noun t):=by
 match ws,h0 with
 |[w],_=>rfl
 |w::v::q,_=>
  unfold ofWords;dsimp only;rw [if_neg (h1 v rfl)]
theorem of_named {s:List UInt8} {ws:List W} {x v:W} (h0:ws[0]? =some x) (h1:ws[1]? =some v) (h2:v.kind=7/\v.text=[61,58]) {k cl:Int} (hk:x.kind=k) (h3:(k=2/\cl=1)\/(k=3/\cl=3)):ofWords s ws=(all ws s.length 2 cl (place ws s.length 2)).andThen fun t=>.ok (.named k x.text t):=by
 match ws,h0,h1 with
 |w::v'::q,h0,h1=>
  cases h0
  cases h1
  unfold ofWords;dsimp only;rw [if_pos h2,if_neg (by omega),hk];rcases h3 with ⟨rfl,rfl⟩|⟨rfl,rfl⟩
  ·rw [if_neg (by decide)]
  ·rw [if_pos rfl]
theorem dropWhile_span (l:List UInt8) (p:UInt8->Bool):l.dropWhile p=l.drop (span p l):=by
 induction l with
 |nil=>rfl
 |cons c r ih=>
  by_cases hc:p c=true
  ·rw [List.dropWhile_cons_of_pos hc,ih,span,if_pos hc,List.drop_succ_cons]
  ·rw [List.dropWhile_cons_of_neg hc,span,if_neg hc,List.drop_zero]
theorem left_is (S:ByteArray):∃ Q:ByteArray,Q.size=S.size-span (·==32) (bl S)/\∀ w,Calls Tryz.prog 23 #[.string S,.string ⟨#[32]⟩] w fun e w'=>e=.returned (.string Q)/\w'=w:=by
 refine ⟨⟨(Lib.trimLeftB S.data.toList 32).toArray⟩,?_,fun w=>Tryz.strings_TrimLeft_one S 32 (by decide) w⟩;have h:=congrArg List.length (dropWhile_span (bl S) (·==32));rw [List.length_drop,bl_len] at h;rw [<-h];unfold Lib.trimLeftB bl;simp [ByteArray.size]
end Pz
open Go.RowKit
namespace Pz
theorem span_in (p:UInt8->Bool) (S:ByteArray):span p (bl S)<=S.size:=by
 have:=span_le p (bl S)
 rwa [bl_len] at this
end Pz
end Go.Proofs.YtimcmghhbdfjfaaGreatDoor
