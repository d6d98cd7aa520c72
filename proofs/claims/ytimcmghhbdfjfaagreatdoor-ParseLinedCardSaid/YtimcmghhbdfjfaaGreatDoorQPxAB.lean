/- Package parse. -/
import Derived.Test.YtimcmghhbdfjfaaGreatDoorQPwW
import Derived.Test.YtimcmghhbdfjfaaGreatDoorQPwAX
set_option linter.unusedVariables false
set_option linter.unusedSimpArgs false
namespace Go.Proofs.YtimcmghhbdfjfaaGreatDoor
open Go.RowKit
namespace Pz
theorem sentence_step {s:PS} {f:Nat} (hnn:CNoun s f) (hbd:CBody s f):CSent s (f+1):=by
 intro g hg n o w hP hD hle hn;cases g with
 |zero=>unfold need at hn;omega
 |succ g=>
  cases h1:sees s.ws n [105,102,46] with
  |true=>exact if_step hnn hbd (by omega) hP hD hn h1
  |false=>
   cases h2:sees s.ws n [119,104,105,108,101,46] with
   |true=>exact while_step hnn hbd (by omega) hP hD hn h1 h2
   |false=>
    by_cases h:∃ v,s.ws[n]? =some v/\v.kind=2/\sees s.ws (n+1) [61,46]=true
    ·obtain ⟨v,hv,hk,hs⟩:=h
     exact set_step hnn (by omega) hP hD hle hn h1 h2 hv hk hs
    ·exact say_step hnn (by omega) hP hD hle hn h1 h2 (fun v hv hk=>h ⟨v,hv,hk⟩)
end Pz
open Go.RowKit
namespace Pz
theorem us_step {s:PS} {w0:World} {n o ub lo5 g cap:Nat} {cs:Array Value} {lv:Value} {l:List U} {xs:List UV} {Fs:List (List Nat)} {w6 w8:World} {u:U} {y:UV} {G:List Nat}
 (S:Start s w0 n o cs ub w6) (L:Lo s w0 ub (ub+1)) (hU:Us w6 lv l xs Fs) (hF:From [] (ub+1) lo5 (rowB lv++Fs.flatten)) (V:Un s [] lo5 w6.heap.size w6 u y G) (hlo5:ub+1<=lo5)
 (hown:w8.ownsRow 0 145 9 (.slice (some ⟨g,0,none⟩) (l.length+1) cap) (l.length+1) ((xs.flatMap fun y=>(UV.cells y).toList)++(UV.cells y).toList)) (hg:(w6.alloc (.cells y.cells 145)).grownBy w8 lv.ownBlock) (hat:lv.ownBlock=some g\/g=(w6.alloc (.cells y.cells 145)).heap.size) (hlt:g<w8.heap.size) (hbl:Below (ub+1) (w6.alloc (.cells y.cells 145)) w8):
 Us w8 (.slice (some ⟨g,0,none⟩) (l.length+1) cap) (l++[u]) (xs++[y]) (Fs++[G])/\From [] (ub+1) w8.heap.size (rowB (.slice (some ⟨g,0,none⟩) (l.length+1) cap)++(Fs++[G]).flatten)/\Start s w0 n o cs ub w8:=by
 have hb7:Below w6.heap.size w6 (w6.alloc (.cells y.cells 145)):=(qb _ _).alloc (qa _) _;have hle:=V.le;have hall:∀ b∈rowB lv++Fs.flatten,b<w6.heap.size:=fun b hb=>by have:=(From.lt0 hF b hb).2;omega
 have h7:Us (w6.alloc (.cells y.cells 145)) lv l xs Fs:=hU.kept keeper_ownU (fun b hb=>hb7.block b (hall b hb));have hs7:w6.heap.size<=(w6.alloc (.cells y.cells 145)).heap.size:=hb7.size;have hFG:=hF.append V.from_ (qa _) V.le hlo5 (fun b hb=>by cases hb);have hst:=h7.step keeper_ownU (hF.mono (qa _) (qi hle hs7)) (V.later hb7).own (hFG.mono (qa _) hs7) (by omega) (fun b hb=>by cases hb) hown hg hat hlt;exact ⟨hst.1,hst.2,(S.later hb7).under L hbl⟩
theorem us_one {s:PS} {w0:World} {n o ub lo:Nat} {cs:Array Value} {w3:World} {u:U} {y:UV} {G:List Nat} (S:Start s w0 n o cs ub w3) (V:Un s [] lo w3.heap.size w3 u y G) (hlo:ub+1<=lo):
 Us (w3.alloc (.cells y.cells 145)) (.slice (some ⟨w3.heap.size,0,none⟩) 1 1) [u] [y] [G]/\From [] (ub+1) (w3.heap.size+1) (rowB (.slice (some ⟨w3.heap.size,0,none⟩) 1 1)++[G].flatten):=by
 have hl:=V.le;have hrow:rowB (.slice (some ⟨w3.heap.size,0,none⟩) 1 1)++[G].flatten=w3.heap.size::G:=by simp [rowB,Value.ownBlock]
 refine ⟨⟨Side.one (V.own.kept (fun b hb=>Below.heap_alloc _ _ _ (V.own.lt b hb))),?_⟩,?_⟩
 ·have h1:(w3.alloc (.cells y.cells 145)).ownsRow 0 145 9 (.slice (some ⟨w3.heap.size,0,none⟩) 1 1) 1 y.cells.toList:=
   ⟨by simp [UV.cells],.inr ⟨w3.heap.size,1,y.cells,rfl,Nat.zero_le _,heap_new _ _,qa _,by unfold maxLen;decide,by simp [UV.cells],by simp [UV.cells]⟩⟩
  simpa using h1
 ·rw [hrow]
  exact (V.from_.cons (qa _) (Nat.lt_succ_self _) hl (fun c hc=>by cases hc)).mono hlo (qa _)
theorem tm_of_row {s:PS} {ub hi:Nat} {w3 w4:World} {F:List Nat} {t:T} {y:TV} {G:List Nat} (hO:Own w4 t y G) (hG:From F w3.heap.size w4.heap.size G) (hF:From [] (ub+1) hi F) (hhi:hi<=w3.heap.size) (hu:ub+1<=w3.heap.size) (hs:w3.heap.size<=w4.heap.size) (hp:s.pb<ub+1):Tm s [] (ub+1) w4.heap.size w4 t y G:=by
 have h:=hF.into hG hu (by omega);exact ⟨hO,h,qa _,h.not_mem (by simp) hp,by omega,fun b hb=>by cases hb⟩
structure TL (s:PS) (w0:World) (o ub:Nat) (R0:R (U × Nat)) (f:Nat) (v:W) (n:Nat) (lv:Value) (l:List U) (wr:World):Prop where
 start:Start s w0 n o (unitCs zeroY v.at_) ub wr
 rows:∃ xs Fs,Us wr lv l xs Fs/\From [] (ub+1) wr.heap.size (rowB lv++Fs.flatten)
 room:Full lv\/∀ b,lv.ownBlock=some b->ub+1<=b
 eq:∃ g,g<=f/\need s.ws n 1<=g/\ties s.ws s.e g v n o l=R0
 len:n<=s.ws.length/\l.length<=n
 ne:l≠[]/\(tie s.ws n=true\/2<=l.length)
def gerCs (A:Option Addr) (n c:Nat) (a:Int):Array Value:=#[.int .i64 0,.string ⟨#[]⟩,.int .i64 0,.slice none 0 0,.slice none 0 0,.slice none 0 0,.slice A n c,.bool false,.int .i64 a]
structure GL (s:PS) (w0:World) (o ub:Nat) (a:Int) (m:Nat) (l:List U) (Fs:List (List Nat)) (w9:World) (i:Nat) (A:Option Addr) (cap:Nat) (lt:List T) (wr:World):Prop where
 start:Start s w0 m o (gerCs A lt.length cap a) ub wr
 away:Away ub w9.heap.size w9 wr
 eq:lt=(l.take i).map U.t
 kids:∃ ys Gs,Kids wr (.slice A lt.length cap) lt ys Gs/\From Fs.flatten w9.heap.size wr.heap.size (rowB (.slice A lt.length cap)++Gs.flatten)/\∀ b∈Gs.flatten,b∈(Fs.take i).flatten
 room:∀ b,(Value.slice A lt.length cap).ownBlock=some b->w9.heap.size<=b
theorem _root_.Go.Proofs.YtimcmghhbdfjfaaGreatDoor.Away.sixAt {p B:Nat} {a b:World} (h:Away p B a b) {q:Nat} (hq:B<=q) (m:Nat) (y:TV):Away p B a (Pz.sixAt b q m y):=h.trans (Away.of_below (sixAt_below b q m y hq))
theorem GL.step {s:PS} {w0:World} {o ub m i g cap cap0:Nat} {a:Int} {A:Option Addr} {lt:List T} {l:List U} {Fs:List (List Nat)} {lv:Value} {xs:List UV} {w9 wr w8:World} {u:U} {x:UV} {ys:List TV} {Gs:List (List Nat)} (h:GL s w0 o ub a m l Fs w9 i A cap0 lt wr) (hub:ub<w9.heap.size) (L:Lo s w0 ub (ub+1))
 (hK:Kids wr (.slice A lt.length cap0) lt ys Gs) (hKF:From Fs.flatten w9.heap.size wr.heap.size (rowB (.slice A lt.length cap0)++Gs.flatten)) (hKs:∀ b∈Gs.flatten,b∈(Fs.take i).flatten)
 (hU:Us w9 lv l xs Fs) (hF:From [] (ub+1) w9.heap.size (rowB lv++Fs.flatten)) (hu:l[i]? =some u) (hx:xs[i]? =some x) {z:Array Value} (hz:z.size=6) {wa:World} (hb7:Below wr.heap.size wr wa)
 (hown:w8.ownsRow 0 28 6 (.slice (some ⟨g,0,none⟩) (lt.length+1) cap) (lt.length+1) ((ys.flatMap fun y=>(TV.cells y).toList)++z.toList)) (hg:wa.grownBy w8 (Value.slice A lt.length cap0).ownBlock) (hat:(Value.slice A lt.length cap0).ownBlock=some g\/g=wa.heap.size) (hlt:g<w8.heap.size) (hgl:w9.heap.size<=g) (hbl:Below w9.heap.size wa w8):
 GL s w0 o ub a m l Fs w9 (i+1) (some ⟨g,0,none⟩) cap (lt++[u.t]) ((sixAt w8 g (lt.length*6) x.t).setCell ⟨ub,6,none⟩ (.slice (some ⟨g,0,none⟩) (lt.length+1) cap)):=by
 have hS:=(((h.start.later hb7).under L (hbl.mono hub)).under L (sixAt_below w8 g (lt.length*6) x.t (by omega:ub+1<=g))).put 6 (.slice (some ⟨g,0,none⟩) (lt.length+1) cap) (by simp [gerCs]);have hS:Start s w0 m o (gerCs (some ⟨g,0,none⟩) (lt++[u.t]).length cap a) ub ((sixAt w8 g (lt.length*6) x.t).setCell ⟨ub,6,none⟩ (.slice (some ⟨g,0,none⟩) (lt.length+1) cap)):=by simpa [gerCs] using hS
 have hsr:=h.away.size;have hs7:=hb7.size;have hA8:Away ub w9.heap.size w9 ((sixAt w8 g (lt.length*6) x.t).setCell ⟨ub,6,none⟩ (.slice (some ⟨g,0,none⟩) (lt.length+1) cap)):=
  (((h.away.trans (Away.of_below (hb7.mono hsr))).trans (Away.of_below hbl)).sixAt hgl (lt.length*6) x.t).setCell (q:=⟨ub,6,none⟩) (.inl rfl) _
 have hil:=(qn.1 hu).1;obtain ⟨G,hG⟩:∃ G,Fs[i]? =some G:=⟨_,List.getElem?_eq_getElem (by rw [hU.side.lf];exact hil)⟩;obtain ⟨G1,G2,rfl,hO⟩:=us_term hU hu hx hG;have hsub:∀ b∈G1,b∈Fs.flatten:=fun b hb=>mem_flat hG (by simp [hb]);have hltF:∀ b∈Fs.flatten,ub+1<=b/\b<w9.heap.size:=fun b hb=>From.lt0 hF b (List.mem_append_right _ hb);have hndF:=(List.nodup_append.1 hF.nodup).2.1;have hO7:Own wa u.t x.t G1:=Own.kept _ _ _ hO (fun b hb=>(hb7.block b (by have:=hltF b (hsub b hb);omega)).trans (h.away.block b (hltF b (hsub b hb)).2 (by have:=hltF b (hsub b hb);omega)));have hall:∀ b∈rowB (.slice A lt.length cap0)++Gs.flatten,b<wr.heap.size:=fun b hb=>by
  rcases hKF.mem b hb with h'|h'
  ·have:=hltF b h';omega
  ·exact h'.2
 have h7:Kids wa (.slice A lt.length cap0) lt ys Gs:=hK.kept keeper_own (fun b hb=>hb7.block b (hall b hb));have hrow0:∀ b∈rowB (.slice A lt.length cap0),w9.heap.size<=b:=fun b hb=>h.room b (mem_rowB.1 hb);have hd:∀ b∈rowB (.slice A lt.length cap0)++Gs.flatten,b ∉ G1:=fun b hb hb1=>by
  rcases List.mem_append.1 hb with hb|hb
  ·have:=hrow0 b hb;have:=hltF b (hsub b hb1);omega
  ·exact apart_take hndF hG (qa i) (by simp [hb1]) (hKs b hb)
 have hFG:From Fs.flatten w9.heap.size wr.heap.size (rowB (.slice A lt.length cap0)++Gs.flatten++G1):=hKF.join (from_piece hndF hG _ _) hd;have hst:=h7.step keeper_own (hKF.mono (qa _) hs7) hO7 (hFG.mono (qa _) hs7) (by omega) (fun b hb=>by have:=hltF b hb;omega) (row_put (y:=x.t) hz hK.side.ly hown) (grown_six hg hat (lt.length*6) x.t) hat (by rw [sixAt_size];exact hlt);have hne:ub ∉ rowB (.slice (some ⟨g,0,none⟩) (lt.length+1) cap)++(Gs++[G1]).flatten:=fun hm=>by
  rcases hst.2.mem _ hm with h'|h'
  ·have:=hltF _ h';omega
  ·omega
 refine ⟨hS,hA8,?_,⟨ys++[x.t],Gs++[G1],?_,?_,fun b hb=>?_⟩,fun b hb=>?_⟩
 ·rw [h.eq,List.take_add_one,hu];simp
 ·rw [show (lt++[u.t]).length=lt.length+1 from by simp]
  exact hst.1.kept keeper_own (fun b hb=>qh _ _ _ _ (fun e=>hne (by have e:b=ub:=e;rw [<-e];exact hb)))
 ·rw [show (lt++[u.t]).length=lt.length+1 from by simp]
  have:=hst.2;simpa [World.setCell] using this
 ·rw [List.flatten_append,List.mem_append] at hb
  rcases hb with hb|hb
  ·exact flatten_take_sub (Nat.le_succ i) (hKs b hb)
  ·exact flatten_take_mem hG (Nat.lt_succ_self i) (by have:b∈G1:=by simpa using hb
                                                      simp [this])
 ·have:g=b:=by simpa [Value.ownBlock] using hb
  omega
theorem GL.later {s:PS} {w0:World} {o ub m i cap:Nat} {a:Int} {A:Option Addr} {lt:List T} {l:List U} {Fs:List (List Nat)} {w9 wr w':World} (h:GL s w0 o ub a m l Fs w9 i A cap lt wr) (hF:∀ b∈Fs.flatten,b<w9.heap.size) (hb:Below wr.heap.size wr w'):GL s w0 o ub a m l Fs w9 i A cap lt w':=by
 obtain ⟨ys,Gs,h1,h2,h3⟩:=h.kids;have hs:=h.away.size;refine ⟨h.start.later hb,h.away.trans (Away.of_below (hb.mono hs)),h.eq,⟨ys,Gs,h1.kept keeper_own (fun b hb'=>hb.block b ?_),h2.mono (qa _) hb.size,h3⟩,h.room⟩;rcases h2.mem b hb' with h'|h'
 ·have:=hF b h';omega
 ·exact h'.2
theorem GL.begin {s:PS} {w0:World} {o ub m:Nat} {a:Int} {l:List U} {Fs:List (List Nat)} {w9:World} (h:Start s w0 m o (unitCs zeroY a) ub w9):GL s w0 o ub a m l Fs w9 0 none 0 [] w9:=
 ⟨h,Away.refl _ _ _,by simp,⟨[],[],Rows.nil _ _ _ _ _,⟨by simp [rowB,Value.ownBlock],fun b hb=>by simp [rowB,Value.ownBlock] at hb⟩,by simp⟩,fun b hb=>by cases hb⟩
theorem GL.len {s:PS} {w0:World} {o ub m i cap:Nat} {a:Int} {A:Option Addr} {lt:List T} {l:List U} {Fs:List (List Nat)} {w9 wr:World} (h:GL s w0 o ub a m l Fs w9 i A cap lt wr):lt.length<=l.length:=by rw [h.eq,List.length_map];exact List.length_take_le' _ _
theorem GL.ends {ty:TypeId} {s:PS} {w0:World} {o ub m cap:Nat} {a:Int} {A:Option Addr} {lt:List T} {l:List U} {Fs:List (List Nat)} {lv:Value} {xs:List UV} {w9 wr:World} (h:GL s w0 o ub a m l Fs w9 l.length A cap lt wr) (hub:ub<w9.heap.size) (hF:From [] (ub+1) w9.heap.size (rowB lv++Fs.flatten)) (hl:2<=l.length/\l.length<=1048576):
 PB ty s w0 ub o (.ok (⟨.mk 0 ⟨#[]⟩ 0 [] [] [],some (l.map U.t),false,a⟩,m)) (.returned (.tuple #[])) wr:=by
 obtain ⟨ys,Gs,hK,hKF,hKs⟩:=h.kids;have hlt:lt=l.map U.t:=by rw [h.eq,List.take_length]
 have hlen:lt.length=l.length:=by rw [hlt,List.length_map]
 have hR:=hK.ownR;obtain ⟨A',cap',e⟩:∃ (g:Nat) (c:Nat),A=some ⟨g,0,none⟩:=by
  rcases hK.row.2 with ⟨e,h0⟩|⟨g',cap',cur,e,_⟩
  ·omega
  ·cases e;exact ⟨g',0,rfl⟩
 refine ⟨⟨zeroY,A,lt.length,cap,false,a⟩,rowB (.slice A lt.length cap)++Gs.flatten,rfl,?_,⟨⟨[],_,rfl,?_,?_⟩,rfl,rfl⟩,⟨hKF.nodup,fun b hb=>.inr ?_⟩⟩
 ·exact h.start
 ·have:=own_node (w:=wr) (k:=0) (n:=0) (s:=⟨#[]⟩) (l:=[]) (A:=none) (len:=0) (cap:=0) (F:=[]) (by simpa [rowB,Value.ownBlock] using (Rows.nil Own TV.cells 28 6 wr).ownR) (by omega) (by omega) (by omega) (by omega) (by decide) (by simp) (qa _) (Nat.zero_le _)
  exact this
 ·rw [hlt] at hR
  unfold OwnG;refine ⟨by rw [e];simp,by rw [List.length_map];exact hl,?_⟩;rw [hlt];exact hR
 ·rcases hKF.mem b hb with h'|h'
  ·have:=From.lt0 hF b (List.mem_append_right _ h');have:=h.away.size;omega
  ·omega
end Pz
end Go.Proofs.YtimcmghhbdfjfaaGreatDoor
