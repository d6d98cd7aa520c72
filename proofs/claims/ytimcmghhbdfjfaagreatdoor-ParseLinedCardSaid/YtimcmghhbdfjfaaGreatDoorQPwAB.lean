/- Package parse. -/
import Derived.Test.YtimcmghhbdfjfaaGreatDoorQPwAA
import Derived.Deep.Cut
set_option linter.unusedVariables false
set_option linter.unusedSimpArgs false
set_option maxRecDepth 100000
set_option maxHeartbeats 2000000
namespace Go.Proofs.YtimcmghhbdfjfaaGreatDoor
open Go.RowKit
namespace Pz
def PU (ty:TypeId) (s:PS) (w:World) (o:Nat) (r:R (U × Nat)) (e:Ending) (w':World):Prop:=
 match r with
 |.ok (u,m)=>∃ x G,e=.returned x.val/\OwnU w' u x G/\From [] w.heap.size w'.heap.size G/\PAt w' s m o/\Away s.pb w.heap.size w w'
 |.bad c p=>e=.panicked [faultEntry ty c p]/\Away s.pb w.heap.size w w'
structure UArg (w:World) (s:PS) (u:U) (x:UV) (F:List Nat):Prop where
 own:OwnU w u x F
 nodup:F.Nodup
 ne:s.pb ∉ F
def ptr (s:PS):Value:=.pointer (some ⟨s.pb,0,none⟩)
def wordV (v:W):Value:=.agg #[.int .i64 v.kind,.string (bytes v.text),.int .i64 (v.at_:Int)]
def Deep (o:Nat):Prop:=o<=512
def CPrimary (s:PS) (f:Nat):Prop:=∀ g,g<=f->∀ (n o:Nat) (w:World),PAt w s n o->Deep o->n<s.ws.length->need s.ws n 1<=g->Calls Tryz.prog 123 #[ptr s] w (PU 61 s w o (primary s.ws s.e g n o))
def CSide (s:PS) (f:Nat):Prop:=∀ g,g<=f->∀ (n o:Nat) (w:World),PAt w s n o->Deep o->need s.ws n 2<=g->Calls Tryz.prog 242 #[ptr s] w (PU 61 s w o (side s.ws s.e g n o))
def CBehind (s:PS) (f:Nat):Prop:=∀ g,g<=f->∀ (n o:Nat) (w:World),PAt w s n o->Deep o->need s.ws n 3<=g->Calls Tryz.prog 198 #[ptr s] w (PT 61 s [] w o (behind s.ws s.e g n o))
def CUnit (s:PS) (f:Nat):Prop:=∀ g,g<=f->∀ (n o:Nat) (w:World),PAt w s n o->Deep o->n<s.ws.length->need s.ws n 3<=g->Calls Tryz.prog 103 #[ptr s] w (PU 61 s w o (unit s.ws s.e g n o))
def CPhrase (s:PS) (f:Nat):Prop:=∀ g,g<=f->∀ (n o:Nat) (w:World),PAt w s n o->Deep o->need s.ws n 5<=g->Calls Tryz.prog 57 #[ptr s] w (PT 61 s [] w o (phrase s.ws s.e g n o))
def CNoun (s:PS) (f:Nat):Prop:=∀ g,g<=f->∀ (n o:Nat) (w:World),PAt w s n o->Deep o->need s.ws n 6<=g->Calls Tryz.prog 193 #[ptr s] w (PT 61 s [] w o (noun s.ws s.e g n o))
def CBody (s:PS) (f:Nat):Prop:=∀ g,g<=f->∀ (n o:Nat) (w:World),PAt w s n o->Deep o->n<=s.ws.length->need s.ws n 8<=g->Calls Tryz.prog 195 #[ptr s] w (PT 61 s [] w o (body s.ws s.e g n o))
def CConj (s:PS) (f:Nat):Prop:=∀ g,g<=f->∀ (v:W) (n o:Nat) (u:U) (x:UV) (F:List Nat) (w:World),PAt w s n o->Deep o->UArg w s u x F->(v.text∈conL/\v.text≠[96]/\v.text.length<=4)->need s.ws n 4<=g->Calls Tryz.prog 125 #[ptr s,wordV v,x.val] w (PT 61 s F w o (conjunction s.ws s.e g v n o u))
def Full (v:Value):Prop:=∀ A n c,v=.slice A n c->c<=n
def CFrom (s:PS) (f:Nat):Prop:=∀ g,g<=f->∀ (n o:Nat) (v:Value) (l:List U) (xs:List UV) (Fs:List (List Nat)) (w:World),PAt w s n o->Deep o->n<=s.ws.length->Us w v l xs Fs->(rowB v++Fs.flatten).Nodup->s.pb ∉ rowB v++Fs.flatten->(l≠[]\/begins s.ws n=true)->l.length<=n->Full v->need s.ws n 4<=g->Calls Tryz.prog 89 #[ptr s,v] w (PT 61 s (rowB v++Fs.flatten) w o (fromU s.ws s.e g n o l))
theorem _root_.Go.Proofs.YtimcmghhbdfjfaaGreatDoor.From.mono {F:List Nat} {lo lo' hi hi':Nat} {G:List Nat} (h:From F lo hi G) (h1:lo'<=lo) (h2:hi<=hi'):From F lo' hi' G:=⟨h.nodup,fun b hb=>(h.mem b hb).imp id (fun k=>⟨by omega,by omega⟩)⟩
theorem own_set {w:World} {t:T} {y:TV} {G:List Nat} (h:Own w t y G) {q:Addr} (hq:q.block ∉ G) (u:Value):Own (w.setCell q u) t y G:=
 Own.kept t y G h (fun b hb=>qh _ _ _ _ (fun e=>hq (e▸hb)))
theorem own_alloc {w:World} {t:T} {y:TV} {G:List Nat} (h:Own w t y G) (o:Obj):Own (w.alloc o) t y G:=
 Own.kept t y G h (fun b hb=>Below.heap_alloc _ _ _ (own_lt t y G h b hb))
theorem _root_.Go.Proofs.YtimcmghhbdfjfaaGreatDoor.Away.next {p:Nat} {a b c:World} (h:Away p a.heap.size a b) (k:Away p b.heap.size b c):Away p a.heap.size a c:=h.trans (k.mono h.size)
theorem Below_next {a b c:World} (h:Below a.heap.size a b) (k:Below b.heap.size b c):Below a.heap.size a c:=h.trans (k.mono h.size)
structure Boxd (w:World) (b:Nat) (cs:Array Value):Prop where
 cell:∀ (i:Nat) (v:Value),cs[i]? =some v->w.cell? ⟨b,i,none⟩=some v
 fz:∀ o,w.frozen? ⟨b,o,none⟩=false
 lt:b<w.heap.size
theorem Boxd.r3 {w:World} {b:Nat} {cs:Array Value} (h:Boxd w b cs) (v0 v1 v2:Value) (e:cs.toList.take 3=[v0,v1,v2]):w.cell? ⟨b,0,none⟩=some v0/\w.cell? ⟨b,1,none⟩=some v1/\w.cell? ⟨b,2,none⟩=some v2:=by
 have q:∀ (i:Nat) (v:Value),[v0,v1,v2][i]? =some v->cs[i]? =some v:=by
  intro i v hv;rw [<-e,List.getElem?_take] at hv;split at hv
  ·simpa using hv
  ·simp at hv
 exact ⟨h.cell 0 _ (q 0 _ rfl),h.cell 1 _ (q 1 _ rfl),h.cell 2 _ (q 2 _ rfl)⟩
theorem Boxd.r6 {w:World} {b:Nat} {cs:Array Value} (h:Boxd w b cs) (v0 v1 v2 v3 v4 v5:Value) (e:cs.toList.take 6=[v0,v1,v2,v3,v4,v5]):w.cell? ⟨b,0,none⟩=some v0/\w.cell? ⟨b,1,none⟩=some v1/\w.cell? ⟨b,2,none⟩=some v2/\w.cell? ⟨b,3,none⟩=some v3/\w.cell? ⟨b,4,none⟩=some v4/\w.cell? ⟨b,5,none⟩=some v5:=by
 have q:∀ (i:Nat) (v:Value),[v0,v1,v2,v3,v4,v5][i]? =some v->cs[i]? =some v:=by
  intro i v hv;rw [<-e,List.getElem?_take] at hv;split at hv
  ·simpa using hv
  ·simp at hv
 exact ⟨h.cell 0 _ (q 0 _ rfl),h.cell 1 _ (q 1 _ rfl),h.cell 2 _ (q 2 _ rfl),h.cell 3 _ (q 3 _ rfl),h.cell 4 _ (q 4 _ rfl),h.cell 5 _ (q 5 _ rfl)⟩
theorem Boxd.r9 {w:World} {b:Nat} {cs:Array Value} (h:Boxd w b cs) (v0 v1 v2 v3 v4 v5 v6 v7 v8:Value) (e:cs.toList.take 9=[v0,v1,v2,v3,v4,v5,v6,v7,v8]):w.cell? ⟨b,0,none⟩=some v0/\w.cell? ⟨b,1,none⟩=some v1/\w.cell? ⟨b,2,none⟩=some v2/\w.cell? ⟨b,3,none⟩=some v3/\w.cell? ⟨b,4,none⟩=some v4/\w.cell? ⟨b,5,none⟩=some v5/\w.cell? ⟨b,6,none⟩=some v6/\w.cell? ⟨b,7,none⟩=some v7/\w.cell? ⟨b,8,none⟩=some v8:=by
 have q:∀ (i:Nat) (v:Value),[v0,v1,v2,v3,v4,v5,v6,v7,v8][i]? =some v->cs[i]? =some v:=by
  intro i v hv;rw [<-e,List.getElem?_take] at hv;split at hv
  ·simpa using hv
  ·simp at hv
 exact ⟨h.cell 0 _ (q 0 _ rfl),h.cell 1 _ (q 1 _ rfl),h.cell 2 _ (q 2 _ rfl),h.cell 3 _ (q 3 _ rfl),h.cell 4 _ (q 4 _ rfl),h.cell 5 _ (q 5 _ rfl),h.cell 6 _ (q 6 _ rfl),h.cell 7 _ (q 7 _ rfl),h.cell 8 _ (q 8 _ rfl)⟩
theorem Boxd.ru {w:World} {b:Nat} {cs:Array Value} (h:Boxd w b cs) (x:UV) (e:cs=x.cells):w.cell? ⟨b,0,none⟩=some (.int .i64 x.t.kind)/\w.cell? ⟨b,1,none⟩=some (.string x.t.text)/\w.cell? ⟨b,2,none⟩=some (.int .i64 x.t.n)/\w.cell? ⟨b,3,none⟩=some (.slice x.t.sa x.t.sl x.t.sc)/\w.cell? ⟨b,4,none⟩=some (.slice x.t.aa x.t.al x.t.ac)/\w.cell? ⟨b,5,none⟩=some (.slice x.t.ka x.t.kl x.t.kc)/\w.cell? ⟨b,6,none⟩=some (.slice x.ga x.gl x.gc)/\w.cell? ⟨b,7,none⟩=some (.bool x.cap)/\w.cell? ⟨b,8,none⟩=some (.int .i64 x.at_):=h.r9 _ _ _ _ _ _ _ _ _ (by subst e;rfl)
theorem Boxd.rt {w:World} {b:Nat} {cs:Array Value} (h:Boxd w b cs) (x:TV) (e:cs.toList.take 6=x.cells.toList):w.cell? ⟨b,0,none⟩=some (.int .i64 x.kind)/\w.cell? ⟨b,1,none⟩=some (.string x.text)/\w.cell? ⟨b,2,none⟩=some (.int .i64 x.n)/\w.cell? ⟨b,3,none⟩=some (.slice x.sa x.sl x.sc)/\w.cell? ⟨b,4,none⟩=some (.slice x.aa x.al x.ac)/\w.cell? ⟨b,5,none⟩=some (.slice x.ka x.kl x.kc):=h.r6 _ _ _ _ _ _ e
theorem Boxd.rz {w:World} {b:Nat} {cs:Array Value} (h:Boxd w b cs) (e:cs.toList.take 6=[.int .i64 0,.string ⟨#[]⟩,.int .i64 0,.slice none 0 0,.slice none 0 0,.slice none 0 0]):w.cell? ⟨b,0,none⟩=some (.int .i64 0)/\w.cell? ⟨b,1,none⟩=some (.string ⟨#[]⟩)/\w.cell? ⟨b,2,none⟩=some (.int .i64 0)/\w.cell? ⟨b,3,none⟩=some (.slice none 0 0)/\w.cell? ⟨b,4,none⟩=some (.slice none 0 0)/\w.cell? ⟨b,5,none⟩=some (.slice none 0 0):=h.r6 _ _ _ _ _ _ e
theorem Boxd.rv {w:World} {b:Nat} {cs:Array Value} (h:Boxd w b cs) (v:W) (e:cs.toList.take 3=[.int .i64 v.kind,.string (bytes v.text),.int .i64 (v.at_:Int)]):w.cell? ⟨b,0,none⟩=some (.int .i64 v.kind)/\w.cell? ⟨b,1,none⟩=some (.string (bytes v.text))/\w.cell? ⟨b,2,none⟩=some (.int .i64 (v.at_:Int)):=h.r3 _ _ _ e
theorem Boxd.new (w:World) (cs:Array Value) (ty:TypeId):Boxd (w.alloc (.cells cs ty)) w.heap.size cs:=by
 refine ⟨fun i v hv=>?_,fun o=>?_,by simp⟩
 ·simp [go_sem,hv]
 ·simp [go_sem]
theorem Boxd.kept {w w':World} {b:Nat} {cs:Array Value} (h:Boxd w b cs) (hk:w'.heap[b]? =w.heap[b]?) (hs:w.heap.size<=w'.heap.size):Boxd w' b cs:=
 ⟨fun i v hv=>(cell_of_heap hk).trans (h.cell i v hv),fun o=>(frozen_of_heap hk).trans (h.fz o),Nat.lt_of_lt_of_le h.lt hs⟩
theorem Boxd.later {w w':World} {b:Nat} {cs:Array Value} (h:Boxd w b cs) (hb:Below w.heap.size w w'):Boxd w' b cs:=h.kept (hb.block b h.lt) hb.size
theorem Boxd.away {w w':World} {b p:Nat} {cs:Array Value} (h:Boxd w b cs) (hb:Away p w.heap.size w w') (hp:b≠p):Boxd w' b cs:=h.kept (hb.block b h.lt hp) hb.size
theorem Boxd.alloc {w:World} {b:Nat} {cs:Array Value} (h:Boxd w b cs) (o:Obj):Boxd (w.alloc o) b cs:=h.later ((qb _ _).alloc (qa _) o)
theorem _root_.Go.Proofs.YtimcmghhbdfjfaaGreatDoor.PAt.other {w:World} {s:PS} {n o:Nat} (h:PAt w s n o) {q:Addr} (h1:q.block≠s.pb) (h2:Off s q.block) (u:Value):PAt (w.setCell q u) s n o:=by
 have hb:=qh w q u s.pb (fun e=>h1 e.symm);exact ⟨h.ok,(cell_of_heap hb).trans h.c0,(cell_of_heap hb).trans h.c1,(cell_of_heap hb).trans h.c2,(cell_of_heap hb).trans h.c3,fun o=>(frozen_of_heap hb).trans (h.fz o),fun e=>by simpa [World.setCell] using h.wlt e,h.words.kept (fun e=>qh _ _ _ _ (fun e'=>h2.1 e e'.symm)),h.vars.set h2.2.1 h2.2.2 u⟩
structure Held (s:PS) (F:List Nat) (w:World) (o:Nat) (t:T) (m:Nat) (y:TV) (G:List Nat) (rb:Nat) (w2:World):Prop where
 own:Own w2 t y G
 from_:From F w.heap.size w2.heap.size G
 at_:PAt w2 s m o
 away:Away s.pb w.heap.size w w2
 rb0:w.heap.size<=rb
 rb1:rb ∉ G
 rb2:rb≠s.pb
 rb3:Off s rb
theorem Held.set {s:PS} {F:List Nat} {w:World} {o m rb:Nat} {t:T} {y:TV} {G:List Nat} {w2:World} (h:Held s F w o t m y G rb w2) (k:Nat) (u:Value):Held s F w o t m y G rb (w2.setCell ⟨rb,k,none⟩ u):=
 ⟨own_set h.own h.rb1 u,by have:=h.from_;simpa [World.setCell] using this,h.at_.other h.rb2 h.rb3 u,h.away.setCell (q:=⟨rb,k,none⟩) (.inr h.rb0) u,h.rb0,h.rb1,h.rb2,h.rb3⟩
theorem Held.ends {ty:TypeId} {s:PS} {F:List Nat} {w:World} {o m rb:Nat} {t:T} {y:TV} {G:List Nat} {w2:World} (h:Held s F w o t m y G rb w2) (v0 v1 v2 v3 v4 v5:Value):
 PT ty s F w o (.ok (t,m)) (.returned y.val) ((((((w2.setCell ⟨rb,0,none⟩ v0).setCell ⟨rb,1,none⟩ v1).setCell ⟨rb,2,none⟩ v2).setCell ⟨rb,3,none⟩ v3).setCell ⟨rb,4,none⟩ v4).setCell ⟨rb,5,none⟩ v5):=by
 have h:=(((((h.set 0 v0).set 1 v1).set 2 v2).set 3 v3).set 4 v4).set 5 v5;exact ⟨y,G,rfl,h.own,h.from_,h.at_,h.away⟩
theorem rb_of {w:World} {s:PS} {n o rb:Nat} (h:PAt w s n o) (hr:w.heap.size<=rb):rb≠s.pb/\Off s rb:=⟨by have:=h.lt;omega,fun e=>by have:=h.wlt e;omega,by have:=h.vars.lt;omega,by have:=h.vars.lt;omega⟩
theorem _root_.Go.Proofs.YtimcmghhbdfjfaaGreatDoor.From.not_mem {F:List Nat} {lo hi:Nat} {G:List Nat} (h:From F lo hi G) {b:Nat} (h1:b ∉ F) (h2:b<lo):b ∉ G:=fun hb=>by
 rcases h.mem b hb with h|h
 ·exact h1 h
 ·omega
abbrev zeroT:Array Value:=#[.int .i64 0,.string ⟨#[]⟩,.int .i64 0,.slice none 0 0,.slice none 0 0,.slice none 0 0]
theorem phrase_step {s:PS} {f:Nat} (hf:CFrom s f):CPhrase s (f+1):=by
 intro g hg n o w hP hD hn;cases g with
 |zero=>unfold need at hn;omega
 |succ g=>
  have HP:=hid hP;have HB0:=hid ((qb w.heap.size w).alloc (qa _) (.cells zeroT 28));have HP0:=hid (hP.later HB0.out);have HX0:=hid (Boxd.new w zeroT 28);have HB:=hid (fun W (h:PAt W s n o)=>begins_calls s n o W h);have HR:=hid (rb_of hP (qa _));simp only [phrase];unfold ptr;cases hb:begins s.ws n with
  |false=>
   rw [if_pos rfl];rw [hb] at HB;clear hP hD hn hg hf hb;go_enter Tryz.func57,Tryz.ntmps57
   go_wp2_with (first
    |(go_at_call 88;refine (HB.out _ HP0.out).mono ?_;rintro e w1 ⟨rfl,hb1⟩;have HP1:=hid (HP0.later hb1);have HB1:=hid (Below_next HB0.out hb1);clear hb1)
    |(go_at_call 29;refine (place_calls s n o _ HP1.out).mono ?_;rintro e w2 ⟨rfl,hb2⟩;have HB2:=hid (Below_next HB1.out hb2);clear hb2)
    |(go_at_call 27;refine (wrong_calls _ _).mono ?_;rintro e w3 ⟨rfl,rfl⟩))
   all_goals exact ⟨rfl,rfl,Away.of_below HB2.out⟩
  |true=>
   rw [if_neg (by simp)];have HF:=hid (fun W (h:PAt W s n o)=>hf g (by omega) n o (.slice none 0 0) [] [] [] W h hD (Nat.le_of_lt (begins_lt hb)) (Rows.nil _ _ _ _ _) (by simp [rowB,Value.ownBlock]) (by simp [rowB,Value.ownBlock]) (.inr hb) (Nat.zero_le n) (by intro A n c e;cases e;exact qa _) (by unfold need at hn ⊢;omega));rw [hb] at HB;clear hP hD hn hg hf hb;cases hr:fromU s.ws s.e g n o [] with
   |bad c p=>
    rw [hr] at HF;go_enter Tryz.func57,Tryz.ntmps57
    go_wp2_with (first
     |(go_at_call 88;refine (HB.out _ HP0.out).mono ?_;rintro e w1 ⟨rfl,hb1⟩;have HP1:=hid (HP0.later hb1);have HB1:=hid (Below_next HB0.out hb1);clear hb1)
     |(go_at_call 89;refine (HF.out _ HP1.out).mono ?_;rintro e w2 ⟨rfl,hA⟩))
    all_goals exact ⟨rfl,rfl,(Away.of_below HB1.out).next hA⟩
   |ok x=>
    obtain ⟨t,m⟩:=x;rw [hr] at HF;go_enter Tryz.func57,Tryz.ntmps57
    go_wp2_with (first
     |(go_at_call 88;refine (HB.out _ HP0.out).mono ?_;rintro e w1 ⟨rfl,hb1⟩;have HP1:=hid (HP0.later hb1);have HB1:=hid (Below_next HB0.out hb1);have HX1:=hid (HX0.later hb1);clear hb1)
     |(go_at_call 89;refine (HF.out _ HP1.out).mono ?_;rintro e w2 ⟨y,G,rfl,hO,hG,hP2,hA⟩;have HX2:=hid (HX1.away hA HR.out.1);have HH:=hid (show Held s [] w o t m y G w.heap.size w2 from ⟨hO,hG.mono HB1.size (qa _),hP2,(Away.of_below HB1.out).next hA,qa _,hG.not_mem (by simp [rowB,Value.ownBlock]) HX1.lt,HR.out.1,HR.out.2⟩);clear hO hG hP2 hA;simp only [TV.val,TV.cells];obtain ⟨c0,c1,c2,c3,c4,c5⟩:=HX2.r6 _ _ _ _ _ _ rfl;have cf:=HX2.fz))
    all_goals
     refine bodyPost_ret (v:=y.val) (by simp [results,Tryz.results57,TV.val,TV.cells,c0,c1,c2,c3,c4,c5,cf,go_sem]) rfl ?_;exact HH.ends _ _ _ _ _ _
end Pz
open Go.RowKit
theorem Below_then {a b c:World} (h:Below b.heap.size b c) (k:Below a.heap.size a b):Below a.heap.size a c:=Pz.Below_next k h
theorem Away_then {p:Nat} {a b c:World} (h:Away p b.heap.size b c) (k:Below a.heap.size a b):Away p a.heap.size a c:=(Away.of_below k).next h
theorem Away.then {p:Nat} {a b c:World} (h:Away p a.heap.size a b) (k:Below b.heap.size b c):Away p a.heap.size a c:=h.next (Away.of_below k)
namespace Pz
structure Start (s:PS) (w:World) (n o:Nat) (cs:Array Value) (rb:Nat) (w0:World):Prop where
 at_:PAt w0 s n o
 box:Boxd w0 rb cs
 away:Away s.pb w.heap.size w w0
 rb0:w.heap.size<=rb
 rb2:rb≠s.pb
 rb3:Off s rb
theorem Start.new {s:PS} {w:World} {n o:Nat} (h:PAt w s n o) (cs:Array Value) (ty:TypeId):Start s w n o cs w.heap.size (w.alloc (.cells cs ty)):=
 ⟨h.later ((qb _ _).alloc (qa _) _),Boxd.new w cs ty,(Away.refl _ _ _).alloc (qa _) _,qa _,(rb_of h (qa _)).1,(rb_of h (qa _)).2⟩
theorem Start.later {s:PS} {w:World} {n o rb:Nat} {cs:Array Value} {w0 w1:World} (h:Start s w n o cs rb w0) (hb:Below w0.heap.size w0 w1):Start s w n o cs rb w1:=
 ⟨h.at_.later hb,h.box.later hb,h.away.then hb,h.rb0,h.rb2,h.rb3⟩
theorem Start.moved {s:PS} {w:World} {n o m o' rb:Nat} {cs:Array Value} {w0 w1:World} (h:Start s w n o cs rb w0) (hA:Away s.pb w0.heap.size w0 w1) (hP:PAt w1 s m o'):Start s w m o' cs rb w1:=
 ⟨hP,h.box.away hA h.rb2,h.away.next hA,h.rb0,h.rb2,h.rb3⟩
theorem Start.held {s:PS} {F:List Nat} {w:World} {n o m rb lo:Nat} {cs:Array Value} {w1:World} {t:T} {y:TV} {G:List Nat} (h:Start s w m o cs rb w1) (hO:Own w1 t y G) (hG:From F lo w1.heap.size G) (h1:w.heap.size<=lo) (h2:rb<lo) (h3:rb ∉ F):Held s F w o t m y G rb w1:=
 ⟨hO,hG.mono h1 (qa _),h.at_,h.away,h.rb0,hG.not_mem h3 h2,h.rb2,h.rb3⟩
theorem Held.later {s:PS} {F:List Nat} {w:World} {o m rb:Nat} {t:T} {y:TV} {G:List Nat} {w2 w3:World} (h:Held s F w o t m y G rb w2) (hb:Below w2.heap.size w2 w3):Held s F w o t m y G rb w3:=
 ⟨Own.kept _ _ _ h.own (fun b hb'=>hb.block b (own_lt _ _ _ h.own b hb')),h.from_.mono (qa _) hb.size,h.at_.later hb,h.away.then hb,h.rb0,h.rb1,h.rb2,h.rb3⟩
structure HeldU (s:PS) (F:List Nat) (w:World) (o:Nat) (u:U) (m:Nat) (x:UV) (G:List Nat) (rb:Nat) (w2:World):Prop where
 own:OwnU w2 u x G
 from_:From F w.heap.size w2.heap.size G
 at_:PAt w2 s m o
 away:Away s.pb w.heap.size w w2
 rb0:w.heap.size<=rb
 rb1:rb ∉ G
 rb2:rb≠s.pb
 rb3:Off s rb
theorem HeldU.set {s:PS} {F:List Nat} {w:World} {o m rb:Nat} {u:U} {y:UV} {G:List Nat} {w2:World} (h:HeldU s F w o u m y G rb w2) (k:Nat) (a:Value):HeldU s F w o u m y G rb (w2.setCell ⟨rb,k,none⟩ a):=
 ⟨h.own.kept (fun b hb=>qh _ _ _ _ (fun e=>h.rb1 (by simp only at e;rw [<-e];exact hb))),by have:=h.from_;simpa [World.setCell] using this,h.at_.other h.rb2 h.rb3 a,h.away.setCell (q:=⟨rb,k,none⟩) (.inr h.rb0) a,h.rb0,h.rb1,h.rb2,h.rb3⟩
theorem HeldU.ends {ty:TypeId} {s:PS} {w:World} {o m rb:Nat} {u:U} {y:UV} {G:List Nat} {w2:World} (h:HeldU s [] w o u m y G rb w2) (v0 v1 v2 v3 v4 v5 v6 v7 v8:Value):
 PU ty s w o (.ok (u,m)) (.returned y.val) (((((((((w2.setCell ⟨rb,0,none⟩ v0).setCell ⟨rb,1,none⟩ v1).setCell ⟨rb,2,none⟩ v2).setCell ⟨rb,3,none⟩ v3).setCell ⟨rb,4,none⟩ v4).setCell ⟨rb,5,none⟩ v5).setCell ⟨rb,6,none⟩ v6).setCell ⟨rb,7,none⟩ v7).setCell ⟨rb,8,none⟩ v8):=by
 have h:=((((((((h.set 0 v0).set 1 v1).set 2 v2).set 3 v3).set 4 v4).set 5 v5).set 6 v6).set 7 v7).set 8 v8;exact ⟨y,G,rfl,h.own,h.from_,h.at_,h.away⟩
theorem Start.heldU {s:PS} {F:List Nat} {w:World} {n o m rb lo:Nat} {cs:Array Value} {w1:World} {t:U} {y:UV} {G:List Nat} (h:Start s w m o cs rb w1) (hO:OwnU w1 t y G) (hG:From F lo w1.heap.size G) (h1:w.heap.size<=lo) (h2:rb<lo) (h3:rb ∉ F):HeldU s F w o t m y G rb w1:=
 ⟨hO,hG.mono h1 (qa _),h.at_,h.away,h.rb0,hG.not_mem h3 h2,h.rb2,h.rb3⟩
abbrev zeroU:Array Value:=#[.int .i64 0,.string ⟨#[]⟩,.int .i64 0,.slice none 0 0,.slice none 0 0,.slice none 0 0,.slice none 0 0,.bool false,.int .i64 0]
theorem noun_step {s:PS} {f:Nat} (hf:CPhrase s f):CNoun s (f+1):=by
 intro g hg n o w hP hD hn;cases g with
 |zero=>unfold need at hn;omega
 |succ g=>
  have S0:=hid (Start.new hP zeroT 28);have HF:=hid (fun W (h:PAt W s n o)=>hf g (by omega) n o W h hD (by unfold need at hn ⊢;omega));simp only [noun];unfold ptr at HF ⊢;clear hP hD hn hg hf;cases hr:phrase s.ws s.e g n o with
  |bad c p=>
   rw [hr] at HF;clear hr;go_enter Tryz.func193,Tryz.ntmps193
   go_wp2_with (first
    |(go_at_call 29;refine (place_calls s n o _ S0.at_).mono ?_;rintro e w1 ⟨rfl,hb1⟩;have S1:=hid (S0.later hb1);clear hb1)
    |(go_at_call 57;refine (HF.out _ S1.at_).mono ?_;rintro e w2 ⟨rfl,hA⟩))
   all_goals exact ⟨rfl,rfl,S1.away.next hA⟩
  |ok x=>
   obtain ⟨t,m⟩:=x;rw [hr] at HF;clear hr;simp only [R.andThen];by_cases hc:T.cls t.kind=1
   ·rw [if_pos hc]
    go_enter Tryz.func193,Tryz.ntmps193
    go_wp2_with (first
     |(go_at_call 29;refine (place_calls s n o _ S0.at_).mono ?_;rintro e w1 ⟨rfl,hb1⟩;have S1:=hid (S0.later hb1);clear hb1)
     |(go_at_call 57;refine (HF.out _ S1.at_).mono ?_;rintro e w2 ⟨y,G,rfl,hO,hG,hP2,hA⟩;have S2:=hid (S1.moved hA hP2);have HH:=hid (S2.held (n:=n) hO hG S1.away.size S1.box.lt (by simp));have hd:(T.cls y.kind !=1)=false:=(by rw [own_kind hO];simp [hc]);clear hO hG hP2 hA;simp only [TV.val,TV.cells])
     |(go_at_call 17;refine (class_calls y _).mono ?_;rintro e w3 ⟨rfl,hb3⟩;have hb3':=Below_then hb3 (show Below w2.heap.size w2 _ from by go_grown);have S3:=hid (S2.later hb3');have HY:=hid ((Boxd.new w2 y.cells 28).later hb3);have HH3:=hid (HH.later hb3');clear hb3 hb3';obtain ⟨y0,y1,y2,y3,y4,y5⟩:=HY.rt y rfl;obtain ⟨c0,c1,c2,c3,c4,c5⟩:=S3.box.r6 _ _ _ _ _ _ rfl;have cf:=S3.box.fz))
    all_goals
     refine bodyPost_ret (v:=y.val) (by simp [results,Tryz.results193,TV.val,TV.cells,c0,c1,c2,c3,c4,c5,cf,go_sem]) rfl ?_;exact HH3.ends _ _ _ _ _ _
   ·rw [if_neg hc]
    go_enter Tryz.func193,Tryz.ntmps193
    go_wp2_with (first
     |(go_at_call 29;refine (place_calls s n o _ S0.at_).mono ?_;rintro e w1 ⟨rfl,hb1⟩;have S1:=hid (S0.later hb1);clear hb1)
     |(go_at_call 57;refine (HF.out _ S1.at_).mono ?_;rintro e w2 ⟨y,G,rfl,hO,hG,hP2,hA⟩;have S2:=hid (S1.moved hA hP2);have hd:(T.cls y.kind !=1)=true:=(by rw [own_kind hO];simp [hc]);clear hO hG hP2 hA;simp only [TV.val,TV.cells])
     |(go_at_call 17;refine (class_calls y _).mono ?_;rintro e w3 ⟨rfl,hb3⟩;have hb3':=Below_then hb3 (show Below w2.heap.size w2 _ from by go_grown);have S3:=hid (S2.later hb3');clear hb3 hb3'))
    all_goals exact ⟨rfl,rfl,S3.away⟩
theorem side_step {s:PS} {f:Nat} (hf:CPrimary s f):CSide s (f+1):=by
 intro g hg n o w hP hD hn;cases g with
 |zero=>unfold need at hn;omega
 |succ g=>
  have S0:=hid (Start.new hP zeroU 145);have HB:=hid (fun W (h:PAt W s n o)=>begins_calls s n o W h);have HS:=hid (fun W (h:PAt W s n o)=>sees_calls s n o [91,58] W h);have HF:=hid (fun W (h:PAt W s n o) (hl:n<s.ws.length)=>hf g (by omega) n o W h hD hl (by unfold need at hn ⊢;omega));simp only [side];unfold ptr at HF ⊢;clear hP hD hn hg hf;cases hb:begins s.ws n with
  |false=>
   rw [if_pos (.inl rfl)];rw [hb] at HB;clear hb;go_enter Tryz.func242,Tryz.ntmps242
   go_wp2_with (first
    |(go_at_call 88;refine (HB.out _ S0.at_).mono ?_;rintro e w1 ⟨rfl,hb1⟩;have S1:=hid (S0.later hb1);clear hb1)
    |(go_at_call 29;refine (place_calls s n o _ S1.at_).mono ?_;rintro e w2 ⟨rfl,hb2⟩;have S2:=hid (S1.later hb2);clear hb2)
    |(go_at_call 27;refine (wrong_calls _ _).mono ?_;rintro e w3 ⟨rfl,rfl⟩))
   all_goals exact ⟨rfl,rfl,S2.away⟩
  |true=>
   have hl:=begins_lt hb;rw [hb] at HB;clear hb;cases hs:sees s.ws n [91,58] with
   |true=>
    rw [if_pos (.inr rfl)];rw [hs] at HS;clear hs hl;go_enter Tryz.func242,Tryz.ntmps242
    go_wp2_with (first
     |(go_at_call 88;refine (HB.out _ S0.at_).mono ?_;rintro e w1 ⟨rfl,hb1⟩;have S1:=hid (S0.later hb1);clear hb1)
     |(go_at_call 122;refine (HS.out _ S1.at_).mono ?_;rintro e w2 ⟨rfl,hb2⟩;have S2:=hid (S1.later hb2);clear hb2)
     |(go_at_call 29;refine (place_calls s n o _ S2.at_).mono ?_;rintro e w3 ⟨rfl,hb3⟩;have S3:=hid (S2.later hb3);clear hb3)
     |(go_at_call 27;refine (wrong_calls _ _).mono ?_;rintro e w3 ⟨rfl,rfl⟩))
    all_goals exact ⟨rfl,rfl,S3.away⟩
   |false=>
    rw [if_neg (by simp)];rw [hs] at HS;have HF:=hid (fun W h=>HF.out W h hl);clear hs hl;cases hr:primary s.ws s.e g n o with
    |bad c p=>
     rw [hr] at HF;clear hr;go_enter Tryz.func242,Tryz.ntmps242
     go_wp2_with (first
      |(go_at_call 88;refine (HB.out _ S0.at_).mono ?_;rintro e w1 ⟨rfl,hb1⟩;have S1:=hid (S0.later hb1);clear hb1)
      |(go_at_call 122;refine (HS.out _ S1.at_).mono ?_;rintro e w2 ⟨rfl,hb2⟩;have S2:=hid (S1.later hb2);clear hb2)
      |(go_at_call 123;refine (HF.out _ S2.at_).mono ?_;rintro e w3 ⟨rfl,hA⟩))
     all_goals exact ⟨rfl,rfl,S2.away.next hA⟩
    |ok x=>
     obtain ⟨u,m⟩:=x;rw [hr] at HF;clear hr;go_enter Tryz.func242,Tryz.ntmps242
     go_wp2_with (first
      |(go_at_call 88;refine (HB.out _ S0.at_).mono ?_;rintro e w1 ⟨rfl,hb1⟩;have S1:=hid (S0.later hb1);clear hb1)
      |(go_at_call 122;refine (HS.out _ S1.at_).mono ?_;rintro e w2 ⟨rfl,hb2⟩;have S2:=hid (S1.later hb2);clear hb2)
      |(go_at_call 123;refine (HF.out _ S2.at_).mono ?_;rintro e w3 ⟨y,G,rfl,hO,hG,hP3,hA⟩;have S3:=hid (S2.moved hA hP3);have HH:=hid (S3.heldU (n:=n) hO hG S2.away.size S2.box.lt (by simp));clear hO hG hP3 hA;simp only [UV.val,UV.cells];obtain ⟨c0,c1,c2,c3,c4,c5,c6,c7,c8⟩:=S3.box.r9 _ _ _ _ _ _ _ _ _ rfl;have cf:=S3.box.fz))
     all_goals
      refine bodyPost_ret (v:=y.val) (by simp [results,Tryz.results242,UV.val,UV.cells,c0,c1,c2,c3,c4,c5,c6,c7,c8,cf,go_sem]) rfl ?_;exact HH.ends _ _ _ _ _ _ _ _ _
end Pz
open Go.RowKit
namespace Pz
theorem _root_.Go.Proofs.YtimcmghhbdfjfaaGreatDoor.From.append {F:List Nat} {lo hi hi' hi2:Nat} {G G':List Nat} (h:From F lo hi G) (k:From [] hi' hi2 G') (h1:hi<=hi') (h2:hi'<=hi2) (hlo:lo<=hi') (hF:∀ b∈F,b<hi'):From F lo hi2 (G++G'):=by
 have hk:∀ b∈G',hi'<=b/\b<hi2:=fun b hb=>(k.mem b hb).resolve_left (by simp);have hg:∀ b∈G,b<hi':=fun b hb=>by
  rcases h.mem b hb with h|h
  ·exact hF b h
  ·omega
 refine ⟨List.nodup_append.2 ⟨h.nodup,k.nodup,fun a ha b hb e=>?_⟩,fun b hb=>?_⟩
 ·have:=hg a ha;have:=hk b hb;omega
 ·rcases List.mem_append.1 hb with hb|hb
  ·exact (h.mem b hb).imp id (fun h=>⟨h.1,by omega⟩)
  ·exact .inr ⟨by have:=hk b hb;omega,(hk b hb).2⟩
theorem _root_.Go.Proofs.YtimcmghhbdfjfaaGreatDoor.From.left {F:List Nat} {lo hi:Nat} {G G':List Nat} (h:From F lo hi (G++G')):From F lo hi G:=⟨(List.nodup_append.1 h.nodup).1,fun b hb=>h.mem b (by simp [hb])⟩
theorem _root_.Go.Proofs.YtimcmghhbdfjfaaGreatDoor.From.cons {F:List Nat} {lo hi hi' b:Nat} {G:List Nat} (h:From F lo hi G) (h1:hi<=b) (h2:b<hi') (hlo:lo<=b) (hF:∀ c∈F,c<b):From F lo hi' (b::G):=by
 refine ⟨List.nodup_cons.2 ⟨fun hb=>?_,h.nodup⟩,fun c hc=>?_⟩
 ·rcases h.mem b hb with k|k
  ·have:=hF b k;omega
  ·omega
 ·rcases List.mem_cons.1 hc with rfl|hc
  ·exact .inr ⟨hlo,h2⟩
  ·exact (h.mem c hc).imp id (fun h=>⟨h.1,by omega⟩)
theorem Start.then {s:PS} {w W W1 w':World} {n o rb:Nat} {cs:Array Value} (_:Start s w n o cs rb W) (h:Below W1.heap.size W1 w') (k:Below W.heap.size W W1):Below W.heap.size W w':=Below_then h k
theorem Start.outer {s:PS} {w w' W:World} {n o rb:Nat} {cs:Array Value} (h:Start s w' n o cs rb W) (k:Below w.heap.size w w'):Start s w n o cs rb W:=
 ⟨h.at_,h.box,Away_then (h.away) k,qi k.size h.rb0,h.rb2,h.rb3⟩
theorem PU.from {ty:TypeId} {s:PS} {w W W1 w':World} {n o rb o':Nat} {cs:Array Value} {r:R (U × Nat)} {e:Ending} (_:Start s w n o cs rb W) (k:Below W.heap.size W W1) (h:PU ty s W1 o' r e w'):PU ty s W o' r e w':=by
 have hs:=k.size;cases r with
 |ok x=>
  obtain ⟨u,m⟩:=x;obtain ⟨y,G,rfl,hO,hG,hP,hA⟩:=h;exact ⟨y,G,rfl,hO,hG.mono hs (qa _),hP,Away_then hA k⟩
 |bad c p=>exact ⟨h.1,Away_then h.2 k⟩
theorem PT.from {ty:TypeId} {s:PS} {F:List Nat} {w W W1 w':World} {n o rb o':Nat} {cs:Array Value} {r:R (T × Nat)} {e:Ending} (_:Start s w n o cs rb W) (k:Below W.heap.size W W1) (h:PT ty s F W1 o' r e w'):PT ty s F W o' r e w':=by
 have hs:=k.size;cases r with
 |ok x=>
  obtain ⟨u,m⟩:=x;obtain ⟨y,G,rfl,hO,hG,hP,hA⟩:=h;exact ⟨y,G,rfl,hO,hG.mono hs (qa _),hP,Away_then hA k⟩
 |bad c p=>exact ⟨h.1,Away_then h.2 k⟩
theorem PN.from {ty:TypeId} {s:PS} {w W W1 w':World} {n o rb o':Nat} {cs:Array Value} {r:R Nat} {e:Ending} (_:Start s w n o cs rb W) (k:Below W.heap.size W W1) (h:PN ty s W1 o' r e w'):PN ty s W o' r e w':=by
 cases r with
 |ok m=>exact ⟨h.1,h.2.1,Away_then h.2.2 k⟩
 |bad c p=>exact ⟨h.1,Away_then h.2 k⟩
theorem PO.from {ty:TypeId} {s:PS} {w W W1 w':World} {n o rb:Nat} {cs:Array Value} {r:R (Nat × Nat)} {e:Ending} (_:Start s w n o cs rb W) (k:Below W.heap.size W W1) (h:PO ty s W1 r e w'):PO ty s W r e w':=by
 cases r with
 |ok m=>exact ⟨h.1,h.2.1,Away_then h.2.2 k⟩
 |bad c p=>exact ⟨h.1,Away_then h.2 k⟩
structure Bx (s:PS) (w:World) (b:Nat) (cs:Array Value):Prop where
 box:Boxd w b cs
 n1:b≠s.pb
 n2:Off s b
theorem Bx.later {s:PS} {w w':World} {b:Nat} {cs:Array Value} (h:Bx s w b cs) (hb:Below w.heap.size w w'):Bx s w' b cs:=⟨h.box.later hb,h.n1,h.n2⟩
theorem Bx.moved {s:PS} {w w':World} {b:Nat} {cs:Array Value} (h:Bx s w b cs) (hA:Away s.pb w.heap.size w w'):Bx s w' b cs:=⟨h.box.away hA h.n1,h.n1,h.n2⟩
theorem Bx.new {s:PS} {w:World} {n o rb:Nat} {zs:Array Value} {w0:World} (h:Start s w n o zs rb w0) (cs:Array Value) (ty:TypeId):Bx s (w0.alloc (.cells cs ty)) w0.heap.size cs:=
 ⟨Boxd.new w0 cs ty,(rb_of h.at_ (qa _)).1,(rb_of h.at_ (qa _)).2⟩
structure Tm (s:PS) (F:List Nat) (lo hi:Nat) (w:World) (t:T) (y:TV) (G:List Nat):Prop where
 own:Own w t y G
 from_:From F lo hi G
 hi_:hi<=w.heap.size
 np:s.pb ∉ G
 le:lo<=hi
 old:∀ b∈F,b<lo
theorem Tm.later {s:PS} {F:List Nat} {lo hi:Nat} {w w':World} {t:T} {y:TV} {G:List Nat} (h:Tm s F lo hi w t y G) (hb:Below w.heap.size w w'):Tm s F lo hi w' t y G:=
 ⟨Own.kept _ _ _ h.own (fun b hb'=>hb.block b (own_lt _ _ _ h.own b hb')),h.from_,qi h.hi_ hb.size,h.np,h.le,h.old⟩
theorem Tm.moved {s:PS} {F:List Nat} {lo hi:Nat} {w w':World} {t:T} {y:TV} {G:List Nat} (h:Tm s F lo hi w t y G) (hA:Away s.pb w.heap.size w w'):Tm s F lo hi w' t y G:=
 ⟨Own.kept _ _ _ h.own (fun b hb'=>hA.block b (own_lt _ _ _ h.own b hb') (fun e=>h.np (e▸hb'))),h.from_,qi h.hi_ hA.size,h.np,h.le,h.old⟩
theorem Tm.new {s:PS} {F:List Nat} {w:World} {n o rb:Nat} {zs:Array Value} {w0 w1:World} {t:T} {y:TV} {G:List Nat} (h:Start s w n o zs rb w0) (hO:Own w1 t y G) (hG:From F w0.heap.size w1.heap.size G) (hF:s.pb ∉ F) (hs:w0.heap.size<=w1.heap.size) (hf:∀ b∈F,b<w0.heap.size):Tm s F w0.heap.size w1.heap.size w1 t y G:=
 ⟨hO,hG,qa _,hG.not_mem hF h.at_.lt,hs,hf⟩
theorem Tm.ends {ty:TypeId} {s:PS} {F:List Nat} {w:World} {n o rb lo hi:Nat} {cs:Array Value} {w1:World} {t:T} {y:TV} {G:List Nat} (T:Tm s F lo hi w1 t y G) (h:Start s w n o cs rb w1) (h2:rb<lo) (hF:∀ b∈F,b<w.heap.size) (v0 v1 v2 v3 v4 v5:Value):
 PT ty s F w o (.ok (t,n)) (.returned y.val) ((((((w1.setCell ⟨rb,0,none⟩ v0).setCell ⟨rb,1,none⟩ v1).setCell ⟨rb,2,none⟩ v2).setCell ⟨rb,3,none⟩ v3).setCell ⟨rb,4,none⟩ v4).setCell ⟨rb,5,none⟩ v5):=
 Held.ends ⟨T.own,T.from_.mono (qi h.rb0 (Nat.le_of_lt h2)) T.hi_,h.at_,h.away,h.rb0,T.from_.not_mem (fun hb=>Nat.lt_irrefl _ (Nat.lt_of_lt_of_le (hF _ hb) h.rb0)) h2,h.rb2,h.rb3⟩ _ _ _ _ _ _
structure Un (s:PS) (F:List Nat) (lo hi:Nat) (w:World) (u:U) (x:UV) (G:List Nat):Prop where
 own:OwnU w u x G
 from_:From F lo hi G
 hi_:hi<=w.heap.size
 np:s.pb ∉ G
 le:lo<=hi
 old:∀ b∈F,b<lo
theorem Un.later {s:PS} {F:List Nat} {lo hi:Nat} {w w':World} {t:U} {y:UV} {G:List Nat} (h:Un s F lo hi w t y G) (hb:Below w.heap.size w w'):Un s F lo hi w' t y G:=
 ⟨h.own.kept (fun b hb'=>hb.block b (h.own.lt b hb')),h.from_,qi h.hi_ hb.size,h.np,h.le,h.old⟩
theorem Un.moved {s:PS} {F:List Nat} {lo hi:Nat} {w w':World} {t:U} {y:UV} {G:List Nat} (h:Un s F lo hi w t y G) (hA:Away s.pb w.heap.size w w'):Un s F lo hi w' t y G:=
 ⟨h.own.kept (fun b hb'=>hA.block b (h.own.lt b hb') (fun e=>h.np (e▸hb'))),h.from_,qi h.hi_ hA.size,h.np,h.le,h.old⟩
theorem Un.new {s:PS} {F:List Nat} {w:World} {n o rb:Nat} {zs:Array Value} {w0 w1:World} {t:U} {y:UV} {G:List Nat} (h:Start s w n o zs rb w0) (hO:OwnU w1 t y G) (hG:From F w0.heap.size w1.heap.size G) (hF:s.pb ∉ F) (hs:w0.heap.size<=w1.heap.size) (hf:∀ b∈F,b<w0.heap.size):Un s F w0.heap.size w1.heap.size w1 t y G:=
 ⟨hO,hG,qa _,hG.not_mem hF h.at_.lt,hs,hf⟩
theorem Un.ends {ty:TypeId} {s:PS} {w:World} {n o rb lo hi:Nat} {cs:Array Value} {w1:World} {t:U} {y:UV} {G:List Nat} (T:Un s [] lo hi w1 t y G) (h:Start s w n o cs rb w1) (h2:rb<lo) (v0 v1 v2 v3 v4 v5 v6 v7 v8:Value):
 PU ty s w o (.ok (t,n)) (.returned y.val) (((((((((w1.setCell ⟨rb,0,none⟩ v0).setCell ⟨rb,1,none⟩ v1).setCell ⟨rb,2,none⟩ v2).setCell ⟨rb,3,none⟩ v3).setCell ⟨rb,4,none⟩ v4).setCell ⟨rb,5,none⟩ v5).setCell ⟨rb,6,none⟩ v6).setCell ⟨rb,7,none⟩ v7).setCell ⟨rb,8,none⟩ v8):=
 HeldU.ends ⟨T.own,T.from_.mono (qi h.rb0 (Nat.le_of_lt h2)) T.hi_,h.at_,h.away,h.rb0,T.from_.not_mem (by simp) h2,h.rb2,h.rb3⟩ _ _ _ _ _ _ _ _ _
theorem Un.arg {s:PS} {F:List Nat} {lo hi:Nat} {w:World} {u:U} {x:UV} {G:List Nat} (h:Un s F lo hi w u x G):UArg w s u x G:=⟨h.own,h.from_.nodup,h.np⟩
theorem Un.term {s:PS} {F:List Nat} {lo hi:Nat} {w:World} {u:U} {x:UV} {G:List Nat} (h:Un s F lo hi w u x G):∃ G1,Tm s F lo hi w u.t x.t G1/\∃ G2,G=G1++G2:=by
 obtain ⟨⟨⟨G1,G2,rfl,h1,h2⟩,h3,h4⟩,hf,hi,hn,hl,ho⟩:=h;exact ⟨G1,⟨h1,hf.left,hi,fun hm=>hn (by simp [hm]),hl,ho⟩,G2,rfl⟩
theorem UArg.un {s:PS} {F:List Nat} {w:World} {u:U} {x:UV} (h:UArg w s u x F) {W:World} (k:Below w.heap.size w W):Un s F W.heap.size W.heap.size W u x F:=
 ⟨h.own.kept (fun b hb=>k.block b (h.own.lt b hb)),⟨h.nodup,fun b hb=>.inl hb⟩,qa _,h.ne,qa _,fun b hb=>Nat.lt_of_lt_of_le (h.own.lt b hb) k.size⟩
theorem UArg.lt {s:PS} {F:List Nat} {w:World} {u:U} {x:UV} (h:UArg w s u x F):∀ b∈F,b<w.heap.size:=h.own.lt
theorem ownR_new {w:World} {l:List T} {ys:List TV} {Fs:List (List Nat)} (h:Side (Own w) l ys Fs) (hl:l.length<=2199023255552):OwnR (w.alloc (.cells ⟨tcells ys⟩ 28)) (some ⟨w.heap.size,0,none⟩) l.length l.length l ([w.heap.size]++Fs.flatten):=by
 refine ⟨rfl,ys,Fs,h.mono (fun t y F _ _ hy=>own_alloc hy _),.inr ⟨w.heap.size,⟨tcells ys⟩,rfl,rfl,(by show (w.heap.push _)[w.heap.size]? =_;simp),qa _,by unfold maxLen;omega,?_,fun j u hu=>?_⟩⟩
 ·show l.length*6<=(tcells ys).length
  rw [tcells_len,h.ly];exact qa _
 ·simp [go_sem,hu]
theorem Tm.node1 {s:PS} {F:List Nat} {lo hi:Nat} {w:World} {k:Int} {t1:T} {y1:TV} {G1:List Nat} (T1:Tm s F lo hi w t1 y1 G1) (hk:0<=k/\k<=100) (hp:s.pb<w.heap.size):
 Tm s F lo (w.heap.size+1) (w.alloc (.cells ⟨tcells [y1]⟩ 28)) (made k [t1]) (nodeV k 0 ⟨#[]⟩ (some ⟨w.heap.size,0,none⟩) 1 1) (w.heap.size::G1):=by
 have hR:=ownR_new (Side.one T1.own) (by simp);refine ⟨?_,T1.from_.cons T1.hi_ (Nat.lt_succ_self _) (qi T1.le T1.hi_) (fun c hc=>Nat.lt_of_lt_of_le (T1.old c hc) (qi T1.le T1.hi_)),by simp,fun h=>?_,by have:=T1.le;have:=T1.hi_;omega,T1.old⟩
 ·have:=own_node (k:=k) (n:=0) (s:=⟨#[]⟩) hR (by omega) (by omega) (by omega) (by omega) (by decide) (by simp) (qa _) (by unfold maxLen;simp)
  simpa [made] using this
 ·rcases List.mem_cons.1 h with h|h
  ·omega
  ·exact T1.np h
theorem Tm.node2 {s:PS} {F:List Nat} {lo hi lo2 hi2:Nat} {w:World} {k:Int} {t1 t2:T} {y1 y2:TV} {G1 G2:List Nat} (T1:Tm s F lo hi w t1 y1 G1) (T2:Tm s [] lo2 hi2 w t2 y2 G2) (hk:0<=k/\k<=100) (hp:s.pb<w.heap.size) (hh:hi<=lo2):
 Tm s F lo (w.heap.size+1) (w.alloc (.cells ⟨tcells [y1,y2]⟩ 28)) (made k [t1,t2]) (nodeV k 0 ⟨#[]⟩ (some ⟨w.heap.size,0,none⟩) 2 2) (w.heap.size::(G1++G2)):=by
 have hR:=ownR_new (Side.cons T1.own (Side.one T2.own)) (by simp);have hl:=T1.le;have hlo:=qi hl hh;have hF:∀ b∈F,b<lo2:=fun b hb=>Nat.lt_of_lt_of_le (T1.old b hb) hlo;have ha:=T1.from_.append T2.from_ hh T2.le hlo hF;have h2:=qi hlo T2.le;refine ⟨?_,ha.cons T2.hi_ (Nat.lt_succ_self _) (qi h2 T2.hi_) (fun c hc=>Nat.lt_of_lt_of_le (T1.old c hc) (qi h2 T2.hi_)),by simp,fun h=>?_,by have:=T2.hi_;omega,T1.old⟩
 ·have:=own_node (k:=k) (n:=0) (s:=⟨#[]⟩) hR (by omega) (by omega) (by omega) (by omega) (by decide) (by simp) (qa _) (by unfold maxLen;simp)
  simpa [made] using this
 ·rcases List.mem_cons.1 h with h|h
  ·omega
  ·rcases List.mem_append.1 h with h|h
   ·exact T1.np h
   ·exact T2.np h
theorem verb_is {u:U} {b:Bool} (hb:u.verb=b) (x:UV) (F:List Nat) (w:World) (h:OwnU w u x F):Calls Tryz.prog 126 #[x.val] w fun e w'=>e=.returned (.bool b)/\Below w.heap.size w w':=hb▸verb_calls u x F w h
theorem noun_is {u:U} {b:Bool} (hb:u.noun=b) (x:UV) (F:List Nat) (w:World) (h:OwnU w u x F):Calls Tryz.prog 104 #[x.val] w fun e w'=>e=.returned (.bool b)/\Below w.heap.size w w':=hb▸noun_calls u x F w h
theorem operand_is {u:U} {b:Bool} (hb:u.operand=b) (x:UV) (F:List Nat) (w:World) (h:OwnU w u x F):Calls Tryz.prog 243 #[x.val] w fun e w'=>e=.returned (.bool b)/\Below w.heap.size w w':=hb▸operand_calls u x F w h
theorem behind_step {s:PS} {f:Nat} (hf:CSide s f):CBehind s (f+1):=by
 intro g hg n o w hP hD hn;cases g with
 |zero=>unfold need at hn;omega
 |succ g=>
  have S0:=hid (Start.new hP zeroT 28);have HF:=hid (fun W (h:PAt W s n o)=>hf g (by omega) n o W h hD (by unfold need at hn ⊢;omega));simp only [behind];unfold ptr at HF ⊢;clear hP hD hn hg hf;cases hr:side s.ws s.e g n o with
  |bad c p=>
   rw [hr] at HF;clear hr;go_enter Tryz.func198,Tryz.ntmps198
   go_wp2_with (first
    |(go_at_call 242;refine (HF.out _ (S0.at_.later (by go_grown))).mono ?_;intro e w9 hp;replace hp:=PU.from S0.out (by go_grown) hp;obtain ⟨rfl,hA⟩:=hp))
   all_goals exact ⟨rfl,rfl,S0.away.next hA⟩
  |ok x=>
   obtain ⟨u,m⟩:=x;rw [hr] at HF;clear hr;simp only [R.andThen];cases hv:u.verb with
   |false=>
    rw [if_neg (by simp)];go_enter Tryz.func198,Tryz.ntmps198
    go_wp2_with (first
     |(go_at_call 27;refine (wrong_calls _ _).mono ?_;rintro e w9 ⟨rfl,rfl⟩)
     |(go_at_call 126;refine (verb_is hv y1 _ _ (U1.later (by go_grown)).own).mono ?_;rintro e w2 ⟨rfl,hb⟩;have hb0:=hb;have hb:=Start.then S1.out hb (by go_grown);have S2:=hid (S1.later hb);have U2:=hid (U1.later hb);have X2:=hid ((Bx.new S1.out y1.cells 145).later hb0);obtain ⟨x2c0,x2c1,x2c2,x2c3,x2c4,x2c5,x2c6,x2c7,x2c8⟩:=X2.box.ru y1 rfl;have x2cf:=X2.box.fz;have x2cl:=X2.box.lt;clear hb hb0)
     |(go_at_call 242;refine (HF.out _ (S0.at_.later (by go_grown))).mono ?_;intro e w1 hp;replace hp:=PU.from S0.out (by go_grown) hp;obtain ⟨y1,G1,rfl,hO,hG,hP,hA⟩:=hp;have S1:=hid (S0.moved hA hP);have U1:=hid (Un.new S0.out hO hG (by simp) hA.size (by simp));clear hO hG hP hA;simp only [UV.val,UV.cells]))
    all_goals exact ⟨rfl,by rw [<-U2.own.at_],S2.away⟩
   |true=>
    rw [if_pos rfl];go_enter Tryz.func198,Tryz.ntmps198
    go_wp2_with (first
     |(go_at_call 126;refine (verb_is hv y1 _ _ (U1.later (by go_grown)).own).mono ?_;rintro e w2 ⟨rfl,hb⟩;have hb0:=hb;have hb:=Start.then S1.out hb (by go_grown);have S2:=hid (S1.later hb);have U2:=hid (U1.later hb);have X2:=hid ((Bx.new S1.out y1.cells 145).later hb0);obtain ⟨x2c0,x2c1,x2c2,x2c3,x2c4,x2c5,x2c6,x2c7,x2c8⟩:=X2.box.ru y1 rfl;have x2cf:=X2.box.fz;have x2cl:=X2.box.lt;obtain ⟨c0,c1,c2,c3,c4,c5⟩:=S2.box.rz rfl;have cf:=S2.box.fz;have cl:=S2.box.lt;clear hb hb0)
     |(go_at_call 242;refine (HF.out _ (S0.at_.later (by go_grown))).mono ?_;intro e w1 hp;replace hp:=PU.from S0.out (by go_grown) hp;obtain ⟨y1,G1,rfl,hO,hG,hP,hA⟩:=hp;have S1:=hid (S0.moved hA hP);have U1:=hid (Un.new S0.out hO hG (by simp) hA.size (by simp));clear hO hG hP hA;simp only [UV.val,UV.cells]))
    all_goals
     refine bodyPost_ret (v:=y1.t.val) (by simp [results,Tryz.results198,nodeV,TV.val,TV.cells,c0,c1,c2,c3,c4,c5,cf,go_sem]) rfl ?_;obtain ⟨G',T2,-⟩:=U2.term;exact T2.ends S2.out S0.box.lt (by simp) _ _ _ _ _ _
end Pz
open Go.RowKit
namespace Pz
abbrev wcells (v:W):Array Value:=#[.int .i64 v.kind,.string (bytes v.text),.int .i64 (v.at_:Int)]
theorem frame {s:PS} {w:World} {n o:Nat} (h:PAt w s n o) (v:W) {u:U} {x:UV} {F:List Nat} (hu:UArg w s u x F) (W:World) (hW:W=((w.alloc (.cells (wcells v) 67)).alloc (.cells x.cells 145)).alloc (.cells zeroT 28)):
 Start s w n o zeroT (w.heap.size+1+1) W/\Bx s W w.heap.size (wcells v)/\Bx s W (w.heap.size+1) x.cells/\Un s F W.heap.size W.heap.size W u x F:=by
 subst hW;have k1:Below w.heap.size w (w.alloc (.cells (wcells v) 67)):=by go_grown
 have k2:Below w.heap.size w ((w.alloc (.cells (wcells v) 67)).alloc (.cells x.cells 145)):=by go_grown
 have k3:Below w.heap.size w (((w.alloc (.cells (wcells v) 67)).alloc (.cells x.cells 145)).alloc (.cells zeroT 28)):=by go_grown
 have e1:(w.alloc (.cells (wcells v) 67)).heap.size=w.heap.size+1:=by simp
 have e2:((w.alloc (.cells (wcells v) 67)).alloc (.cells x.cells 145)).heap.size=w.heap.size+1+1:=by simp
 have hb1:=rb_of h (qa _);have hb2:=rb_of h (Nat.le_succ w.heap.size);refine ⟨?_,⟨(Boxd.new w (wcells v) 67).later (by go_grown),hb1.1,hb1.2⟩,⟨?_,hb2.1,hb2.2⟩,hu.un k3⟩
 ·have:=(Start.new (h.later k2) zeroT 28).outer k2
  rwa [e2] at this
 ·have:=(Boxd.new (w.alloc (.cells (wcells v) 67)) x.cells 145).later (w':=(((w.alloc (.cells (wcells v) 67)).alloc (.cells x.cells 145)).alloc (.cells zeroT 28))) (by go_grown)
  rwa [e1] at this
def CEither (s:PS) (f:Nat):Prop:=∀ g,g<=f->∀ (v:W) (n o:Nat) (u:U) (x:UV) (F:List Nat) (kv ko:Int) (w:World),PAt w s n o->Deep o->UArg w s u x F->need s.ws n 3<=g->0<=kv/\kv<=100->0<=ko/\ko<=100->Calls Tryz.prog 244 #[ptr s,wordV v,x.val,.int .i64 kv,.int .i64 ko] w (PT 61 s F w o (either s.ws s.e g v n o u kv ko))
theorem either_step {s:PS} {f:Nat} (hf:CSide s f):CEither s (f+1):=by
 intro g hg v n o u x F kv ko w hP hD hu hn hkv hko;cases g with
 |zero=>unfold need at hn;omega
 |succ g=>
  have HP:=hid hP;have HU:=hid hu;have HL:=hid hu.lt;have HF:=hid (fun W (h:PAt W s n o)=>hf g (by omega) n o W h hD (by unfold need at hn ⊢;omega));have HK:=hid (And.intro hkv hko);simp only [either];unfold ptr at HF ⊢;unfold wordV;simp only [UV.val,UV.cells];clear hP hD hn hg hf hu hkv hko;cases hv:u.verb with
  |false=>
   rw [if_pos rfl];go_enter Tryz.func244,Tryz.ntmps244
   go_upto_region 1 with fail
   generalize hW:World.alloc _ _=w0;obtain ⟨hS,hXW,hXU,hU⟩:=frame HP.out v HU.out w0 hW.symm;have S0:=hid hS;have XW0:=hid hXW;have XU0:=hid hXU;have U0:=hid hU;clear hW hS hXW hXU hU;obtain ⟨xu0c0,xu0c1,xu0c2,xu0c3,xu0c4,xu0c5,xu0c6,xu0c7,xu0c8⟩:=XU0.box.ru x rfl;have xu0cf:=XU0.box.fz;have xu0cl:=XU0.box.lt;go_wp2_with (first
    |(go_at_call 27;refine (wrong_calls _ _).mono ?_;rintro e w9 ⟨rfl,rfl⟩)
    |(go_at_call 126;refine (verb_is hv x _ _ (U0.later (by go_grown)).own).mono ?_;rintro e w1 ⟨rfl,hb⟩;have hb0:=hb;have hb:=Start.then S0.out hb (by go_grown);have S1:=hid (S0.later hb);have U1:=hid (U0.later hb);have XW1:=hid (XW0.later hb);obtain ⟨xw1c0,xw1c1,xw1c2⟩:=XW1.box.rv v rfl;have xw1cf:=XW1.box.fz;have xw1cl:=XW1.box.lt;clear hb hb0))
   all_goals exact ⟨rfl,rfl,S1.away⟩
  |true=>
   rw [if_neg (by simp)];cases hr:side s.ws s.e g n o with
   |bad c p=>
    rw [hr] at HF;clear hr;go_enter Tryz.func244,Tryz.ntmps244
    go_upto_region 1 with fail
    generalize hW:World.alloc _ _=w0;obtain ⟨hS,hXW,hXU,hU⟩:=frame HP.out v HU.out w0 hW.symm;have S0:=hid hS;have XW0:=hid hXW;have XU0:=hid hXU;have U0:=hid hU;clear hW hS hXW hXU hU;obtain ⟨xu0c0,xu0c1,xu0c2,xu0c3,xu0c4,xu0c5,xu0c6,xu0c7,xu0c8⟩:=XU0.box.ru x rfl;have xu0cf:=XU0.box.fz;have xu0cl:=XU0.box.lt;go_wp2_with (first
     |(go_at_call 242;refine (HF.out _ (S1.at_.later (by go_grown))).mono ?_;intro e w9 hp;replace hp:=PU.from S1.out (by go_grown) hp;obtain ⟨rfl,hA⟩:=hp)
     |(go_at_call 126;refine (verb_is hv x _ _ (U0.later (by go_grown)).own).mono ?_;rintro e w1 ⟨rfl,hb⟩;have hb0:=hb;have hb:=Start.then S0.out hb (by go_grown);have S1:=hid (S0.later hb);have U1:=hid (U0.later hb);have XW1:=hid (XW0.later hb);clear hb hb0))
    all_goals exact ⟨rfl,rfl,S1.away.next hA⟩
   |ok r=>
    obtain ⟨u2,m⟩:=r;rw [hr] at HF;clear hr;simp only [R.andThen];cases hv2:u2.verb with
    |true=>
     rw [if_pos rfl];go_enter Tryz.func244,Tryz.ntmps244
     go_upto_region 1 with fail
     generalize hW:World.alloc _ _=w0;obtain ⟨hS,hXW,hXU,hU⟩:=frame HP.out v HU.out w0 hW.symm;have S0:=hid hS;have XW0:=hid hXW;have XU0:=hid hXU;have U0:=hid hU;clear hW hS hXW hXU hU;obtain ⟨xu0c0,xu0c1,xu0c2,xu0c3,xu0c4,xu0c5,xu0c6,xu0c7,xu0c8⟩:=XU0.box.ru x rfl;have xu0cf:=XU0.box.fz;have xu0cl:=XU0.box.lt;go_wp2_with (first
      |(go_at_call 127;obtain ⟨_,TT0,-⟩:=U3.term;obtain ⟨_,TT1,-⟩:=V3.term;refine (made_calls' _ _ _ _ _).mono ?_;rintro e w4 ⟨rfl,hb⟩;have hb0:=hb;have hb:=Start.then S3.out hb (by go_grown);have S4:=hid (S3.later hb);have N4:=hid ((Tm.node2 (k:=kv) TT0 TT1 HK.out.1 S3.at_.lt U1.hi_).later hb0);obtain ⟨c0,c1,c2,c3,c4,c5⟩:=S4.box.rz rfl;have cf:=S4.box.fz;have cl:=S4.box.lt;clear hb hb0;simp only [nodeV,TV.val,TV.cells])
      |(go_at_call 126;refine (verb_is hv2 y2 _ _ (V2.later (by go_grown)).own).mono ?_;rintro e w3 ⟨rfl,hb⟩;have hb0:=hb;have hb:=Start.then S2.out hb (by go_grown);have S3:=hid (S2.later hb);have U3:=hid (U2.later hb);have V3:=hid (V2.later hb);have XU3:=hid (XU2.later hb);obtain ⟨xu3c0,xu3c1,xu3c2,xu3c3,xu3c4,xu3c5,xu3c6,xu3c7,xu3c8⟩:=XU3.box.ru x rfl;have xu3cf:=XU3.box.fz;have xu3cl:=XU3.box.lt;have XV3:=hid ((Bx.new S2.out y2.cells 145).later hb0);obtain ⟨xv3c0,xv3c1,xv3c2,xv3c3,xv3c4,xv3c5,xv3c6,xv3c7,xv3c8⟩:=XV3.box.ru y2 rfl;have xv3cf:=XV3.box.fz;have xv3cl:=XV3.box.lt;clear hb hb0)
      |(go_at_call 242;refine (HF.out _ (S1.at_.later (by go_grown))).mono ?_;intro e w2 hp;replace hp:=PU.from S1.out (by go_grown) hp;obtain ⟨y2,G2,rfl,hO,hG,hP,hA⟩:=hp;have S2:=hid (S1.moved hA hP);have V2:=hid (Un.new S1.out hO hG (by simp) hA.size (by simp));have U2:=hid (U1.moved hA);have XU2:=hid (XU1.moved hA);clear hO hG hP hA;simp only [UV.val,UV.cells])
      |(go_at_call 126;refine (verb_is hv x _ _ (U0.later (by go_grown)).own).mono ?_;rintro e w1 ⟨rfl,hb⟩;have hb0:=hb;have hb:=Start.then S0.out hb (by go_grown);have S1:=hid (S0.later hb);have U1:=hid (U0.later hb);have XW1:=hid (XW0.later hb);have XU1:=hid (XU0.later hb);clear hb hb0))
     all_goals
      refine bodyPost_ret (v:=(nodeV kv 0 ⟨#[]⟩ (some ⟨w3.heap.size,0,none⟩) 2 2).val) (by simp [results,Tryz.results244,nodeV,TV.val,TV.cells,c0,c1,c2,c3,c4,c5,cf,go_sem]) rfl ?_;exact N4.ends S4.out S0.box.lt HL.out _ _ _ _ _ _
    |false=>
     rw [if_neg (by simp)];cases ho:u2.operand with
     |false=>
      rw [if_pos rfl];go_enter Tryz.func244,Tryz.ntmps244
      go_upto_region 1 with fail
      generalize hW:World.alloc _ _=w0;obtain ⟨hS,hXW,hXU,hU⟩:=frame HP.out v HU.out w0 hW.symm;have S0:=hid hS;have XW0:=hid hXW;have XU0:=hid hXU;have U0:=hid hU;clear hW hS hXW hXU hU;obtain ⟨xu0c0,xu0c1,xu0c2,xu0c3,xu0c4,xu0c5,xu0c6,xu0c7,xu0c8⟩:=XU0.box.ru x rfl;have xu0cf:=XU0.box.fz;have xu0cl:=XU0.box.lt;go_wp2_with (first
       |(go_at_call 27;refine (wrong_calls _ _).mono ?_;rintro e w9 ⟨rfl,rfl⟩)
       |(go_at_call 243;refine (operand_is ho y2 _ _ (V3.later (by go_grown)).own).mono ?_;rintro e w4 ⟨rfl,hb⟩;have hb0:=hb;have hb:=Start.then S3.out hb (by go_grown);have S4:=hid (S3.later hb);have U4:=hid (U3.later hb);have V4:=hid (V3.later hb);have XU4:=hid (XU3.later hb);have XV4:=hid (XV3.later hb);obtain ⟨xv4c0,xv4c1,xv4c2,xv4c3,xv4c4,xv4c5,xv4c6,xv4c7,xv4c8⟩:=XV4.box.ru y2 rfl;have xv4cf:=XV4.box.fz;have xv4cl:=XV4.box.lt;clear hb hb0)
       |(go_at_call 126;refine (verb_is hv2 y2 _ _ (V2.later (by go_grown)).own).mono ?_;rintro e w3 ⟨rfl,hb⟩;have hb0:=hb;have hb:=Start.then S2.out hb (by go_grown);have S3:=hid (S2.later hb);have U3:=hid (U2.later hb);have V3:=hid (V2.later hb);have XU3:=hid (XU2.later hb);have XV3:=hid ((Bx.new S2.out y2.cells 145).later hb0);obtain ⟨xv3c0,xv3c1,xv3c2,xv3c3,xv3c4,xv3c5,xv3c6,xv3c7,xv3c8⟩:=XV3.box.ru y2 rfl;have xv3cf:=XV3.box.fz;have xv3cl:=XV3.box.lt;clear hb hb0)
       |(go_at_call 242;refine (HF.out _ (S1.at_.later (by go_grown))).mono ?_;intro e w2 hp;replace hp:=PU.from S1.out (by go_grown) hp;obtain ⟨y2,G2,rfl,hO,hG,hP,hA⟩:=hp;have S2:=hid (S1.moved hA hP);have V2:=hid (Un.new S1.out hO hG (by simp) hA.size (by simp));have U2:=hid (U1.moved hA);have XU2:=hid (XU1.moved hA);clear hO hG hP hA;simp only [UV.val,UV.cells])
       |(go_at_call 126;refine (verb_is hv x _ _ (U0.later (by go_grown)).own).mono ?_;rintro e w1 ⟨rfl,hb⟩;have hb0:=hb;have hb:=Start.then S0.out hb (by go_grown);have S1:=hid (S0.later hb);have U1:=hid (U0.later hb);have XW1:=hid (XW0.later hb);have XU1:=hid (XU0.later hb);clear hb hb0))
      all_goals exact ⟨rfl,by rw [<-V4.own.at_],S4.away⟩
     |true=>
      rw [if_neg (by simp)];go_enter Tryz.func244,Tryz.ntmps244
      go_upto_region 1 with fail
      generalize hW:World.alloc _ _=w0;obtain ⟨hS,hXW,hXU,hU⟩:=frame HP.out v HU.out w0 hW.symm;have S0:=hid hS;have XW0:=hid hXW;have XU0:=hid hXU;have U0:=hid hU;clear hW hS hXW hXU hU;obtain ⟨xu0c0,xu0c1,xu0c2,xu0c3,xu0c4,xu0c5,xu0c6,xu0c7,xu0c8⟩:=XU0.box.ru x rfl;have xu0cf:=XU0.box.fz;have xu0cl:=XU0.box.lt;go_wp2_with (first
       |(go_at_call 127;obtain ⟨_,TT0,-⟩:=U4.term;obtain ⟨_,TT1,-⟩:=V4.term;refine (made_calls' _ _ _ _ _).mono ?_;rintro e w5 ⟨rfl,hb⟩;have hb0:=hb;have hb:=Start.then S4.out hb (by go_grown);have S5:=hid (S4.later hb);have N5:=hid ((Tm.node2 (k:=ko) TT0 TT1 HK.out.2 S4.at_.lt U1.hi_).later hb0);obtain ⟨c0,c1,c2,c3,c4,c5⟩:=S5.box.rz rfl;have cf:=S5.box.fz;have cl:=S5.box.lt;clear hb hb0;simp only [nodeV,TV.val,TV.cells])
       |(go_at_call 243;refine (operand_is ho y2 _ _ (V3.later (by go_grown)).own).mono ?_;rintro e w4 ⟨rfl,hb⟩;have hb0:=hb;have hb:=Start.then S3.out hb (by go_grown);have S4:=hid (S3.later hb);have U4:=hid (U3.later hb);have V4:=hid (V3.later hb);have XU4:=hid (XU3.later hb);have XV4:=hid (XV3.later hb);obtain ⟨xv4c0,xv4c1,xv4c2,xv4c3,xv4c4,xv4c5,xv4c6,xv4c7,xv4c8⟩:=XV4.box.ru y2 rfl;have xv4cf:=XV4.box.fz;have xv4cl:=XV4.box.lt;obtain ⟨xu4c0,xu4c1,xu4c2,xu4c3,xu4c4,xu4c5,xu4c6,xu4c7,xu4c8⟩:=XU4.box.ru x rfl;have xu4cf:=XU4.box.fz;have xu4cl:=XU4.box.lt;clear hb hb0)
       |(go_at_call 126;refine (verb_is hv2 y2 _ _ (V2.later (by go_grown)).own).mono ?_;rintro e w3 ⟨rfl,hb⟩;have hb0:=hb;have hb:=Start.then S2.out hb (by go_grown);have S3:=hid (S2.later hb);have U3:=hid (U2.later hb);have V3:=hid (V2.later hb);have XU3:=hid (XU2.later hb);have XV3:=hid ((Bx.new S2.out y2.cells 145).later hb0);obtain ⟨xv3c0,xv3c1,xv3c2,xv3c3,xv3c4,xv3c5,xv3c6,xv3c7,xv3c8⟩:=XV3.box.ru y2 rfl;have xv3cf:=XV3.box.fz;have xv3cl:=XV3.box.lt;clear hb hb0)
       |(go_at_call 242;refine (HF.out _ (S1.at_.later (by go_grown))).mono ?_;intro e w2 hp;replace hp:=PU.from S1.out (by go_grown) hp;obtain ⟨y2,G2,rfl,hO,hG,hP,hA⟩:=hp;have S2:=hid (S1.moved hA hP);have V2:=hid (Un.new S1.out hO hG (by simp) hA.size (by simp));have U2:=hid (U1.moved hA);have XU2:=hid (XU1.moved hA);clear hO hG hP hA;simp only [UV.val,UV.cells])
       |(go_at_call 126;refine (verb_is hv x _ _ (U0.later (by go_grown)).own).mono ?_;rintro e w1 ⟨rfl,hb⟩;have hb0:=hb;have hb:=Start.then S0.out hb (by go_grown);have S1:=hid (S0.later hb);have U1:=hid (U0.later hb);have XW1:=hid (XW0.later hb);have XU1:=hid (XU0.later hb);clear hb hb0))
      all_goals
       refine bodyPost_ret (v:=(nodeV ko 0 ⟨#[]⟩ (some ⟨w4.heap.size,0,none⟩) 2 2).val) (by simp [results,Tryz.results244,nodeV,TV.val,TV.cells,c0,c1,c2,c3,c4,c5,cf,go_sem]) rfl ?_;exact N5.ends S5.out S0.box.lt HL.out _ _ _ _ _ _
end Pz
end Go.Proofs.YtimcmghhbdfjfaaGreatDoor
