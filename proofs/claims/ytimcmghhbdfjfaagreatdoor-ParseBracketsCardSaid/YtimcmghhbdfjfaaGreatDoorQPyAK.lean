/- Package parse. -/
import Derived.Test.YtimcmghhbdfjfaaGreatDoorQPxAG
import Derived.Test.YtimcmghhbdfjfaaGreatDoorQTermF
import Derived.Defers
import Derived.Recover
import Derived.Laws.Pointers
import Derived.Test.YtimcmghhbdfjfaaGreatDoorQPyAG
set_option linter.unusedVariables false
set_option linter.unusedSimpArgs false
set_option maxRecDepth 100000
set_option maxHeartbeats 4000000
namespace Go.Proofs.YtimcmghhbdfjfaaGreatDoor
open Go.RowKit
namespace Pz
def PAll (ty:TypeId) (s:PS) (w:World) (r:R T) (e:Ending) (w':World):Prop:=
 match r with
 |.ok t=>∃ y G,e=.returned y.val/\Own w' t y G/\From [] w.heap.size w'.heap.size G/\Away s.pb w.heap.size w w'
 |.bad c p=>e=.panicked [faultEntry ty c p]/\Away s.pb w.heap.size w w'
theorem Own.later' {w w':World} {t:T} {y:TV} {G:List Nat} (h:Own w t y G) (hb:Below w.heap.size w w'):Own w' t y G:=Own.kept t y G h (fun b hb'=>hb.block b (own_lt t y G h b hb'))
theorem may_is {t:T} {x:TV} {G:List Nat} {c r:Int} (hr:T.may t c=r) {w:World} (h:Own w t x G):
 Calls Tryz.prog 7 #[.agg #[.int .i64 x.kind,.string x.text,.int .i64 x.n,.slice x.sa x.sl x.sc,.slice x.aa x.al x.ac,.slice x.ka x.kl x.kc],.int .i64 c] w fun e w'=>e=.returned (.int .i64 r)/\Below w.heap.size w w':=
 hr▸may_calls t x w.heap.size c w (Own.rep t x G h (fun b hb=>own_lt t x G h b hb)) (qa _)
theorem PAll.ends {s:PS} {w:World} {o m rb:Nat} {t:T} {y:TV} {G:List Nat} {w2:World} (h:Held s [] w o t m y G rb w2) (v0 v1 v2 v3 v4 v5:Value):
 PAll 61 s w (.ok t) (.returned y.val) ((((((w2.setCell ⟨rb,0,none⟩ v0).setCell ⟨rb,1,none⟩ v1).setCell ⟨rb,2,none⟩ v2).setCell ⟨rb,3,none⟩ v3).setCell ⟨rb,4,none⟩ v4).setCell ⟨rb,5,none⟩ v5):=by
 have h:=(((((h.set 0 v0).set 1 v1).set 2 v2).set 3 v3).set 4 v4).set 5 v5;exact ⟨y,G,rfl,h.own,h.from_,h.away⟩
theorem all_calls (s:PS) (n:Nat) (class_ at_:Int) (w:World) (hP:PAt w s n 0):Calls Tryz.prog 28 #[.pointer (some ⟨s.pb,0,none⟩),.int .i64 class_,.int .i64 at_] w (PAll 61 s w (all s.ws s.e n class_ at_)):=by
 have S0:=hid (Start.new hP zeroT 28);have HF:=hid (fun W (h:PAt W s n 0)=>(call_all s (13*s.ws.length+20)).phrase (13*s.ws.length+20) (qa _) n 0 W h (Nat.zero_le _) (by unfold need;omega));obtain ⟨R0,hR0⟩:∃ R0,all s.ws s.e n class_ at_=R0:=⟨_,rfl⟩;rw [hR0];unfold all at hR0;unfold ptr at HF;clear hP;cases hr:phrase s.ws s.e (13*s.ws.length+20) n 0 with
 |bad c p=>
  rw [hr] at HF hR0;have HR:=hid (show R.bad c p=R0 from hR0);clear hr hR0;go_enter Tryz.func28,Tryz.ntmps28
  go_wp2_with (go_at_call 57;refine (HF.out _ S0.at_).mono ?_;rintro e w2 ⟨rfl,hA⟩)
  all_goals
   rw [<-HR.out];exact ⟨rfl,rfl,S0.away.next hA⟩
 |ok x=>
  obtain ⟨t,m⟩:=x;rw [hr] at HF hR0;simp only [R.andThen] at hR0;clear hr;by_cases hm:m<s.ws.length
  ·rw [if_pos hm] at hR0
   have HR:=hid hR0;have d1:(m:Int)<(s.ws.length:Int):=Int.ofNat_lt.2 hm;clear hR0;go_enter Tryz.func28,Tryz.ntmps28
   go_upto_region 2 with (go_at_call 57;refine (HF.out _ S0.at_).mono ?_;rintro e w2 ⟨y,G,rfl,hO,hG,hP2,hA⟩;have S2:=hid (S0.moved hA hP2);have HH:=hid (S2.held (n:=n) hO hG S0.away.size S0.box.lt (by simp));clear hO hG hP2 hA;simp only [TV.val,TV.cells])
   generalize hWa:World.alloc w2 _=w3;have hb3:Below w2.heap.size w2 w3:=hWa▸(qb _ _).alloc (qa _) _;have HY3:=hid (show Boxd w3 w2.heap.size y.cells from hWa▸Boxd.new w2 y.cells 28);have S3:=hid (S2.later hb3);have HH3:=hid (HH.later hb3);clear hWa hb3;have p0:=S3.at_.c0;have p1:=S3.at_.c1;go_quiet (fail);generalize hWq:World.drewN w3 _=w5;have hb5:Below w3.heap.size w3 w5:=hWq▸below_drewN (qb _ _) _;have HY5:=hid (HY3.later hb5);have S5:=hid (S3.later hb5);have HH5:=hid (HH3.later hb5);clear hWq hb5 p0 p1;have y0:=HY5.cell 0 (.int .i64 y.kind) rfl;have y1:=HY5.cell 1 (.string y.text) rfl;have y2:=HY5.cell 2 (.int .i64 y.n) rfl;have y3:=HY5.cell 3 (.slice y.sa y.sl y.sc) rfl;have y4:=HY5.cell 4 (.slice y.aa y.al y.ac) rfl;have y5:=HY5.cell 5 (.slice y.ka y.kl y.kc) rfl;have yf:=HY5.fz;have yl:=HY5.lt;have c0:=S5.box.cell 0 _ rfl;have c1:=S5.box.cell 1 _ rfl;have c2:=S5.box.cell 2 _ rfl;have c3:=S5.box.cell 3 _ rfl;have c4:=S5.box.cell 4 _ rfl;have c5:=S5.box.cell 5 _ rfl;have cf:=S5.box.fz;have cl:=S5.box.lt;have p0:=S5.at_.c0;have p1:=S5.at_.c1;have p2:=S5.at_.c2;go_wp2_with (first
    |(go_at_call 29;refine (place_calls s m 0 _ S5.at_).mono ?_;rintro e w6 ⟨rfl,hb⟩;have S6:=hid (S5.later hb);clear hb)
    |(go_at_call 27;refine (wrong_calls _ _).mono ?_;rintro e w7 ⟨rfl,rfl⟩))
   all_goals
    rw [<-HR.out];exact ⟨rfl,rfl,S6.away⟩
  rw [if_neg hm] at hR0;have d1:¬(m:Int)<(s.ws.length:Int):=fun h=>hm (Int.ofNat_lt.1 h);by_cases hc:T.cls t.kind=class_
  ·rw [if_neg (fun h=>h hc)] at hR0
   by_cases hy:T.may t class_=0
   ·rw [if_neg (fun h=>h hy)] at hR0
    have HR:=hid hR0;have HMy:=hid hy;clear hR0 hy;go_enter Tryz.func28,Tryz.ntmps28
    go_upto_region 2 with (go_at_call 57;refine (HF.out _ S0.at_).mono ?_;rintro e w2 ⟨y,G,rfl,hO,hG,hP2,hA⟩;have S2:=hid (S0.moved hA hP2);have HH:=hid (S2.held (n:=n) hO hG S0.away.size S0.box.lt (by simp));have hd:(T.cls y.kind !=class_)=false:=(by rw [own_kind hO];simp [hc]);clear hO hG hP2 hA;simp only [TV.val,TV.cells])
    generalize hWa:World.alloc w2 _=w3;have hb3:Below w2.heap.size w2 w3:=hWa▸(qb _ _).alloc (qa _) _;have HY3:=hid (show Boxd w3 w2.heap.size y.cells from hWa▸Boxd.new w2 y.cells 28);have S3:=hid (S2.later hb3);have HH3:=hid (HH.later hb3);clear hWa hb3;have p0:=S3.at_.c0;have p1:=S3.at_.c1;go_quiet (fail);generalize hWq:World.drewN w3 _=w5;have hb5:Below w3.heap.size w3 w5:=hWq▸below_drewN (qb _ _) _;have HY5:=hid (HY3.later hb5);have S5:=hid (S3.later hb5);have HH5:=hid (HH3.later hb5);clear hWq hb5 p0 p1;have y0:=HY5.cell 0 (.int .i64 y.kind) rfl;have y1:=HY5.cell 1 (.string y.text) rfl;have y2:=HY5.cell 2 (.int .i64 y.n) rfl;have y3:=HY5.cell 3 (.slice y.sa y.sl y.sc) rfl;have y4:=HY5.cell 4 (.slice y.aa y.al y.ac) rfl;have y5:=HY5.cell 5 (.slice y.ka y.kl y.kc) rfl;have yf:=HY5.fz;have yl:=HY5.lt;have c0:=S5.box.cell 0 _ rfl;have c1:=S5.box.cell 1 _ rfl;have c2:=S5.box.cell 2 _ rfl;have c3:=S5.box.cell 3 _ rfl;have c4:=S5.box.cell 4 _ rfl;have c5:=S5.box.cell 5 _ rfl;have cf:=S5.box.fz;have cl:=S5.box.lt;have p0:=S5.at_.c0;have p1:=S5.at_.c1;have p2:=S5.at_.c2;go_wp2_with (first
     |(go_at_call 17;refine (class_calls y _).mono ?_;rintro e w6 ⟨rfl,hb⟩;have S6:=hid (S5.later hb);have HY6:=hid (HY5.later hb);have HH6:=hid (HH5.later hb);clear hb;clear y0 y1 y2 y3 y4 y5 yf yl c0 c1 c2 c3 c4 c5 cf cl p0 p1 p2;obtain ⟨y0,y1,y2,y3,y4,y5⟩:=HY6.rt y rfl;have yf:=HY6.fz;have yl:=HY6.lt;obtain ⟨c0,c1,c2,c3,c4,c5⟩:=S6.box.r6 _ _ _ _ _ _ rfl;have cf:=S6.box.fz;have cl:=S6.box.lt;have p0:=S6.at_.c0;have p1:=S6.at_.c1;have p2:=S6.at_.c2)
     |(go_at_call 7;refine (may_is HMy.out HH6.own).mono ?_;rintro e w7 ⟨rfl,hb⟩;have S7:=hid (S6.later hb);have HY7:=hid (HY6.later hb);have HH7:=hid (HH6.later hb);clear hb;clear y0 y1 y2 y3 y4 y5 yf yl c0 c1 c2 c3 c4 c5 cf cl p0 p1 p2;obtain ⟨y0,y1,y2,y3,y4,y5⟩:=HY7.rt y rfl;have yf:=HY7.fz;have yl:=HY7.lt;obtain ⟨c0,c1,c2,c3,c4,c5⟩:=S7.box.r6 _ _ _ _ _ _ rfl;have cf:=S7.box.fz;have cl:=S7.box.lt;have p0:=S7.at_.c0;have p1:=S7.at_.c1;have p2:=S7.at_.c2))
    all_goals
     refine bodyPost_ret (v:=y.val) (by simp [results,Tryz.results28,TV.val,TV.cells,c0,c1,c2,c3,c4,c5,cf,go_sem]) rfl ?_;rw [<-HR.out];exact PAll.ends HH7.out _ _ _ _ _ _
   ·rw [if_pos hy] at hR0
    have HR:=hid hR0;have h0:(T.may t class_ !=0)=true:=by simp [hy]
    clear hR0 hy;go_enter Tryz.func28,Tryz.ntmps28
    go_upto_region 2 with (go_at_call 57;refine (HF.out _ S0.at_).mono ?_;rintro e w2 ⟨y,G,rfl,hO,hG,hP2,hA⟩;have S2:=hid (S0.moved hA hP2);have HH:=hid (S2.held (n:=n) hO hG S0.away.size S0.box.lt (by simp));have hd:(T.cls y.kind !=class_)=false:=(by rw [own_kind hO];simp [hc]);clear hO hG hP2 hA;simp only [TV.val,TV.cells])
    generalize hWa:World.alloc w2 _=w3;have hb3:Below w2.heap.size w2 w3:=hWa▸(qb _ _).alloc (qa _) _;have HY3:=hid (show Boxd w3 w2.heap.size y.cells from hWa▸Boxd.new w2 y.cells 28);have S3:=hid (S2.later hb3);have HH3:=hid (HH.later hb3);clear hWa hb3;have p0:=S3.at_.c0;have p1:=S3.at_.c1;go_quiet (fail);generalize hWq:World.drewN w3 _=w5;have hb5:Below w3.heap.size w3 w5:=hWq▸below_drewN (qb _ _) _;have HY5:=hid (HY3.later hb5);have S5:=hid (S3.later hb5);have HH5:=hid (HH3.later hb5);clear hWq hb5 p0 p1;have y0:=HY5.cell 0 (.int .i64 y.kind) rfl;have y1:=HY5.cell 1 (.string y.text) rfl;have y2:=HY5.cell 2 (.int .i64 y.n) rfl;have y3:=HY5.cell 3 (.slice y.sa y.sl y.sc) rfl;have y4:=HY5.cell 4 (.slice y.aa y.al y.ac) rfl;have y5:=HY5.cell 5 (.slice y.ka y.kl y.kc) rfl;have yf:=HY5.fz;have yl:=HY5.lt;have c0:=S5.box.cell 0 _ rfl;have c1:=S5.box.cell 1 _ rfl;have c2:=S5.box.cell 2 _ rfl;have c3:=S5.box.cell 3 _ rfl;have c4:=S5.box.cell 4 _ rfl;have c5:=S5.box.cell 5 _ rfl;have cf:=S5.box.fz;have cl:=S5.box.lt;have p0:=S5.at_.c0;have p1:=S5.at_.c1;have p2:=S5.at_.c2;go_wp2_with (first
     |(go_at_call 17;refine (class_calls y _).mono ?_;rintro e w6 ⟨rfl,hb⟩;have S6:=hid (S5.later hb);have HY6:=hid (HY5.later hb);have HH6:=hid (HH5.later hb);clear hb;clear y0 y1 y2 y3 y4 y5 yf yl c0 c1 c2 c3 c4 c5 cf cl p0 p1 p2;obtain ⟨y0,y1,y2,y3,y4,y5⟩:=HY6.rt y rfl;have yf:=HY6.fz;have yl:=HY6.lt;obtain ⟨c0,c1,c2,c3,c4,c5⟩:=S6.box.r6 _ _ _ _ _ _ rfl;have cf:=S6.box.fz;have cl:=S6.box.lt;have p0:=S6.at_.c0;have p1:=S6.at_.c1;have p2:=S6.at_.c2)
     |(go_at_call 7;refine (may_is rfl HH6.own).mono ?_;rintro e w7 ⟨rfl,hb⟩;have S7:=hid (S6.later hb);have HY7:=hid (HY6.later hb);have HH7:=hid (HH6.later hb);clear hb;clear y0 y1 y2 y3 y4 y5 yf yl c0 c1 c2 c3 c4 c5 cf cl p0 p1 p2;obtain ⟨y0,y1,y2,y3,y4,y5⟩:=HY7.rt y rfl;have yf:=HY7.fz;have yl:=HY7.lt;obtain ⟨c0,c1,c2,c3,c4,c5⟩:=S7.box.r6 _ _ _ _ _ _ rfl;have cf:=S7.box.fz;have cl:=S7.box.lt;have p0:=S7.at_.c0;have p1:=S7.at_.c1;have p2:=S7.at_.c2))
    all_goals
     rw [<-HR.out];exact ⟨rfl,rfl,S7.away⟩
  ·rw [if_pos hc] at hR0
   have HR:=hid hR0;clear hR0;go_enter Tryz.func28,Tryz.ntmps28
   go_upto_region 2 with (go_at_call 57;refine (HF.out _ S0.at_).mono ?_;rintro e w2 ⟨y,G,rfl,hO,hG,hP2,hA⟩;have S2:=hid (S0.moved hA hP2);have HH:=hid (S2.held (n:=n) hO hG S0.away.size S0.box.lt (by simp));have hd:(T.cls y.kind !=class_)=true:=(by rw [own_kind hO];simp [hc]);clear hO hG hP2 hA;simp only [TV.val,TV.cells])
   generalize hWa:World.alloc w2 _=w3;have hb3:Below w2.heap.size w2 w3:=hWa▸(qb _ _).alloc (qa _) _;have HY3:=hid (show Boxd w3 w2.heap.size y.cells from hWa▸Boxd.new w2 y.cells 28);have S3:=hid (S2.later hb3);have HH3:=hid (HH.later hb3);clear hWa hb3;have p0:=S3.at_.c0;have p1:=S3.at_.c1;go_quiet (fail);generalize hWq:World.drewN w3 _=w5;have hb5:Below w3.heap.size w3 w5:=hWq▸below_drewN (qb _ _) _;have HY5:=hid (HY3.later hb5);have S5:=hid (S3.later hb5);have HH5:=hid (HH3.later hb5);clear hWq hb5 p0 p1;have y0:=HY5.cell 0 (.int .i64 y.kind) rfl;have y1:=HY5.cell 1 (.string y.text) rfl;have y2:=HY5.cell 2 (.int .i64 y.n) rfl;have y3:=HY5.cell 3 (.slice y.sa y.sl y.sc) rfl;have y4:=HY5.cell 4 (.slice y.aa y.al y.ac) rfl;have y5:=HY5.cell 5 (.slice y.ka y.kl y.kc) rfl;have yf:=HY5.fz;have yl:=HY5.lt;have c0:=S5.box.cell 0 _ rfl;have c1:=S5.box.cell 1 _ rfl;have c2:=S5.box.cell 2 _ rfl;have c3:=S5.box.cell 3 _ rfl;have c4:=S5.box.cell 4 _ rfl;have c5:=S5.box.cell 5 _ rfl;have cf:=S5.box.fz;have cl:=S5.box.lt;have p0:=S5.at_.c0;have p1:=S5.at_.c1;have p2:=S5.at_.c2;go_wp2_with (go_at_call 17;refine (class_calls y _).mono ?_;rintro e w6 ⟨rfl,hb⟩;have S6:=hid (S5.later hb);have HY6:=hid (HY5.later hb);have HH6:=hid (HH5.later hb);clear hb;clear y0 y1 y2 y3 y4 y5 yf yl c0 c1 c2 c3 c4 c5 cf cl p0 p1 p2;obtain ⟨y0,y1,y2,y3,y4,y5⟩:=HY6.rt y rfl;have yf:=HY6.fz;have yl:=HY6.lt;obtain ⟨c0,c1,c2,c3,c4,c5⟩:=S6.box.r6 _ _ _ _ _ _ rfl;have cf:=S6.box.fz;have cl:=S6.box.lt;have p0:=S6.at_.c0;have p1:=S6.at_.c1;have p2:=S6.at_.c2)
   all_goals
    rw [<-HR.out];exact ⟨rfl,rfl,S6.away⟩
end Pz
open Go.RowKit
namespace Pz
theorem assert_nil (w:World):(Instr.typeAssert .nilIface 20 61 true).run Tryz.prog w=.ok (.tuple #[.agg #[.int .i64 0,.int .i64 0],.bool false]) w:=by kernel_rfl
theorem assert_fault (c a:Int) (w:World):(Instr.typeAssert (.iface 61 (.agg #[.int .i64 c,.int .i64 a])) 20 61 true).run Tryz.prog w=.ok (.tuple #[.agg #[.int .i64 c,.int .i64 a],.bool true]) w:=by kernel_rfl
theorem catch_idle (p q:Nat) (w:World):
 CallsD Tryz.prog 42 #[.pointer (some ⟨p,0,none⟩),.pointer (some ⟨q,0,none⟩)] .returning w fun e u' w'=>e=.returned (.tuple #[])/\u'=.returning/\Below w.heap.size w w':=by
 refine callsD_of_wpS Tryz.func42 rfl fun c₀ cs hu=>?_;apply wpS_seq;apply wpS_region;simp [wpOpsS,go_sem,recoverD,hu,Tryz.ntmps42,Exit.thenS,assert_nil];apply wpS_seq;apply wpS_region;simp [wpOpsS,go_sem,Exit.thenS];refine wpS_cond (t:=false) (by simp [Act.eval,Array.replicate]) ?_;simp only [Bool.false_eq_true,if_false];refine wpS_of_wp (wp_skip ?_);cases c₀
 simp_all [bodyPostS,results,Tryz.results42]
 exact (qb _ _).alloc (qa _) _
theorem catch_fault (p q:Nat) (c a:Int) (older:List PanicEntry) (w:World) (x y:Value) (hpq:¬p=q) (hqp:¬q=p) (hp:w.cell? ⟨p,0,none⟩=some x) (hpf:w.frozen? ⟨p,0,none⟩=false) (hq:w.cell? ⟨q,0,none⟩=some y) (hqf:w.frozen? ⟨q,0,none⟩=false):
 CallsD Tryz.prog 42 #[.pointer (some ⟨p,0,none⟩),.pointer (some ⟨q,0,none⟩)] (.panicking (faultEntry 61 c a::older)) w fun e u' w'=>e=.returned (.tuple #[])/\u'=.panicking ({ v:=.iface 61 (.agg #[.int .i64 c,.int .i64 a]),recovered:=true }::older)/\Below w.heap.size ((w.setCell ⟨p,0,none⟩ (.int .i64 a)).setCell ⟨q,0,none⟩ (.int .i64 c)) w':=by
 unfold faultEntry;refine callsD_of_wpS Tryz.func42 rfl fun c₀ cs hu=>?_;apply wpS_seq;apply wpS_region;simp [wpOpsS,go_sem,recoverD,hu,Tryz.ntmps42,Exit.thenS,assert_fault];apply wpS_seq;apply wpS_region;simp [wpOpsS,go_sem,Exit.thenS];refine wpS_cond (t:=true) (by simp [Act.eval,Array.replicate]) ?_;simp only [if_true];have hpl:p<w.heap.size:=qc _ _ hp;have hql:q<w.heap.size:=qc _ _ hq;refine wpS_of_wp ?_
 go_region
 all_goals
  cases c₀
  simp_all [bodyPostS,results,Tryz.results42]
  exact ((qb _ _).alloc (by simp [World.setCell]) _).drew
theorem catchL_idle (r p q:Nat) (w:World):
 CallsD Tryz.prog 26 #[.pointer (some ⟨r,0,none⟩),.pointer (some ⟨p,0,none⟩),.pointer (some ⟨q,0,none⟩)] .returning w fun e u' w'=>e=.returned (.tuple #[])/\u'=.returning/\Below w.heap.size w w':=by
 refine callsD_of_wpS Tryz.func26 rfl fun c₀ cs hu=>?_;apply wpS_seq;apply wpS_region;simp [wpOpsS,go_sem,recoverD,hu,Tryz.ntmps26,Exit.thenS,assert_nil];apply wpS_seq;apply wpS_region;simp [wpOpsS,go_sem,Exit.thenS];refine wpS_cond (t:=false) (by simp [Act.eval,Array.replicate]) ?_;simp only [Bool.false_eq_true,if_false];refine wpS_of_wp (wp_skip ?_);cases c₀
 simp_all [bodyPostS,results,Tryz.results26]
 exact (qb _ _).alloc (qa _) _
def zeroLine (w:World) (r:Nat):World:=(((((((((w.setCell ⟨r,0,none⟩ (.int .i64 0)).setCell ⟨r,1,none⟩ (.string ⟨#[]⟩)).setCell ⟨r,2,none⟩ (.int .i64 0)).setCell ⟨r,3,none⟩ (.string ⟨#[]⟩)).setCell ⟨r,4,none⟩ (.int .i64 0)).setCell ⟨r,5,none⟩ (.slice none 0 0)).setCell ⟨r,6,none⟩ (.slice none 0 0)).setCell ⟨r,7,none⟩ (.slice none 0 0)).setCell ⟨r,8,none⟩ (.slice none 0 0))
theorem catchL_fault (r p q:Nat) (c a:Int) (older:List PanicEntry) (w:World) (x y x0 x1 x2 x3 x4 x5 x6 x7 x8:Value) (hpq:¬p=q) (hqp:¬q=p) (hpr:¬p=r) (hrp:¬r=p) (hqr:¬q=r) (hrq:¬r=q) (hp:w.cell? ⟨p,0,none⟩=some x) (hpf:w.frozen? ⟨p,0,none⟩=false) (hq:w.cell? ⟨q,0,none⟩=some y) (hqf:w.frozen? ⟨q,0,none⟩=false)
 (h0:w.cell? ⟨r,0,none⟩=some x0) (h1:w.cell? ⟨r,1,none⟩=some x1) (h2:w.cell? ⟨r,2,none⟩=some x2) (h3:w.cell? ⟨r,3,none⟩=some x3) (h4:w.cell? ⟨r,4,none⟩=some x4) (h5:w.cell? ⟨r,5,none⟩=some x5) (h6:w.cell? ⟨r,6,none⟩=some x6) (h7:w.cell? ⟨r,7,none⟩=some x7) (h8:w.cell? ⟨r,8,none⟩=some x8) (hrf:∀ o,w.frozen? ⟨r,o,none⟩=false):
 CallsD Tryz.prog 26 #[.pointer (some ⟨r,0,none⟩),.pointer (some ⟨p,0,none⟩),.pointer (some ⟨q,0,none⟩)] (.panicking (faultEntry 61 c a::older)) w fun e u' w'=>e=.returned (.tuple #[])/\u'=.panicking ({ v:=.iface 61 (.agg #[.int .i64 c,.int .i64 a]),recovered:=true }::older)/\Below w.heap.size (((zeroLine w r).setCell ⟨p,0,none⟩ (.int .i64 a)).setCell ⟨q,0,none⟩ (.int .i64 c)) w':=by
 unfold faultEntry zeroLine;refine callsD_of_wpS Tryz.func26 rfl fun c₀ cs hu=>?_;apply wpS_seq;apply wpS_region;simp [wpOpsS,go_sem,recoverD,hu,Tryz.ntmps26,Exit.thenS,assert_fault];apply wpS_seq;apply wpS_region;simp [wpOpsS,go_sem,Exit.thenS];refine wpS_cond (t:=true) (by simp [Act.eval,Array.replicate]) ?_;simp only [if_true];have hpl:p<w.heap.size:=qc _ _ hp;have hql:q<w.heap.size:=qc _ _ hq;have hrl:r<w.heap.size:=qc _ _ h0;refine wpS_of_wp ?_
 go_region
 all_goals
  cases c₀
  simp_all [bodyPostS,results,Tryz.results26]
  exact ((qb _ _).alloc (by simp [World.setCell]) _).drew
end Pz
open Go.RowKit
theorem Away.fresh {p B:Nat} {w w':World} (h:Away p B w w') {C:Nat} (h1:C<=B) (h2:C<=p):Below C w w':=⟨h.os,h.tape,h.output,h.size,fun b hb=>h.block b (Nat.lt_of_lt_of_le hb h1) (fun e=>by omega)⟩
namespace Pz
theorem Boxd.below {w w':World} {b:Nat} {cs:Array Value} {B:Nat} (h:Boxd w b cs) (hb:Below B w w') (h1:b<B):Boxd w' b cs:=h.kept (hb.block b h1) hb.size
theorem Boxd.other {w:World} {b:Nat} {cs:Array Value} (h:Boxd w b cs) {q:Addr} (u:Value) (hq:q.block≠b):Boxd (w.setCell q u) b cs:=h.kept (qh _ _ _ _ (fun e=>hq e.symm)) (by simp [World.setCell])
structure Three (w0:World) (cs:Array Value) (a e:Int) (W:World):Prop where
 b0:Boxd W w0.heap.size cs
 b1:Boxd W (w0.heap.size+1) #[.int .i64 a]
 b2:Boxd W (w0.heap.size+2) #[.int .i64 e]
 below:Below w0.heap.size w0 W
theorem Three.new (w:World) (cs:Array Value) (ty t1 t2:TypeId):Three w cs 0 0 (((w.alloc (.cells cs ty)).alloc (.cells #[.int .i64 0] t1)).alloc (.cells #[.int .i64 0] t2)):=by
 have h0:=Boxd.new w cs ty;have h1:=Boxd.new (w.alloc (.cells cs ty)) #[.int .i64 0] t1;have h2:=Boxd.new ((w.alloc (.cells cs ty)).alloc (.cells #[.int .i64 0] t1)) #[.int .i64 0] t2;have e1:(w.alloc (.cells cs ty)).heap.size=w.heap.size+1:=by simp
 have e2:((w.alloc (.cells cs ty)).alloc (.cells #[.int .i64 0] t1)).heap.size=w.heap.size+2:=by simp
 rw [e1] at h1;rw [e2] at h2;exact ⟨(h0.alloc _).alloc _,h1.alloc _,h2,(((qb _ _).alloc (qa _) _).alloc (by simp) _).alloc (by simp;omega) _⟩
section
variable {w0 W W':World} {cs:Array Value} {a e:Int} (h:Three w0 cs a e W)
include h
theorem Three.lt:w0.heap.size+2<W.heap.size:=h.b2.lt
theorem Three.later (hb:Below W.heap.size W W'):Three w0 cs a e W':=⟨h.b0.later hb,h.b1.later hb,h.b2.later hb,h.below.trans (hb.mono h.below.size)⟩
theorem Three.past {B:Nat} (hb:Below B W W') (hB:w0.heap.size+3<=B):Three w0 cs a e W':=⟨h.b0.below hb (by omega),h.b1.below hb (by omega),h.b2.below hb (by omega),h.below.trans (hb.mono (by omega))⟩
theorem Three.set1 (v:Int) {u:Value} (hu:u=.int .i64 v):Three w0 cs v e (W.setCell ⟨w0.heap.size+1,0,none⟩ u):=by
 subst hu;exact ⟨h.b0.other _ (by simp),by simpa using h.b1.put 0 (.int .i64 v) (by simp),h.b2.other _ (by simp),h.below.setCell (p:=⟨w0.heap.size+1,0,none⟩) (by simp) _⟩
theorem Three.set2 (v:Int) {u:Value} (hu:u=.int .i64 v):Three w0 cs a v (W.setCell ⟨w0.heap.size+2,0,none⟩ u):=by
 subst hu;exact ⟨h.b0.other _ (by simp),h.b1.other _ (by simp),by simpa using h.b2.put 0 (.int .i64 v) (by simp),h.below.setCell (p:=⟨w0.heap.size+2,0,none⟩) (by simp) _⟩
theorem Three.set0 (k:Nat) (hk:k<cs.size) (u:Value):Three w0 (cs.setIfInBounds k u) a e (W.setCell ⟨w0.heap.size,k,none⟩ u):=
 ⟨h.b0.put k u hk,h.b1.other _ (by simp),h.b2.other _ (by simp),h.below.setCell (p:=⟨w0.heap.size,k,none⟩) (by simp) _⟩
end
theorem Three.term {w0 W:World} {a0 a1 a2 a3 a4 a5:Value} {a e:Int} (h:Three w0 #[a0,a1,a2,a3,a4,a5] a e W) (v0 v1 v2 v3 v4 v5:Value):
 Three w0 #[v0,v1,v2,v3,v4,v5] a e ((((((W.setCell ⟨w0.heap.size,0,none⟩ v0).setCell ⟨w0.heap.size,1,none⟩ v1).setCell ⟨w0.heap.size,2,none⟩ v2).setCell ⟨w0.heap.size,3,none⟩ v3).setCell ⟨w0.heap.size,4,none⟩ v4).setCell ⟨w0.heap.size,5,none⟩ v5):=
 (((((h.set0 0 (by simp) v0).set0 1 (by simp) v1).set0 2 (by simp) v2).set0 3 (by simp) v3).set0 4 (by simp) v4).set0 5 (by simp) v5
theorem Three.away {w0 W W':World} {cs:Array Value} {a e:Int} (h:Three w0 cs a e W) {p:Nat} (hA:Away p W.heap.size W W') (hp:w0.heap.size+3<=p):Three w0 cs a e W':=
 ⟨h.b0.away hA (by omega),h.b1.away hA (by omega),h.b2.away hA (by omega),h.below.trans (hA.fresh h.below.size (by omega))⟩
theorem three_rest {W:World} {z:Nat} (b:Nat) (hb:z+3<=b) (v0 v1 v2 v3 v4 v5 v6 v7:Value):((((((((W.setCell ⟨z,0,none⟩ v0).setCell ⟨z,1,none⟩ v1).setCell ⟨z,2,none⟩ v2).setCell ⟨z,3,none⟩ v3).setCell ⟨z,4,none⟩ v4).setCell ⟨z,5,none⟩ v5).setCell ⟨z+1,0,none⟩ v6).setCell ⟨z+1+1,0,none⟩ v7).heap[b]? =W.heap[b]? :=by
 rw [qh _ _ _ _ (by simp;omega),qh _ _ _ _ (by simp;omega),qh _ _ _ _ (by simp;omega),qh _ _ _ _ (by simp;omega),qh _ _ _ _ (by simp;omega),qh _ _ _ _ (by simp;omega),qh _ _ _ _ (by simp;omega),qh _ _ _ _ (by simp;omega)]
theorem cut_size {s:List UInt8} {ws:List W} (h:cut s=.ok ws):s.length<=1048576:=by
 unfold cut at h;split at h
 ·cases h
 ·omega
theorem PAt.start {B:Nat} {w:World} {S:ByteArray} {ws:List W} {A:Option Addr} {cap:Nat} (hv:Vars w) (hrow:w.ownsRow B 67 3 (.slice A ws.length cap) ws.length (wflat ws)) (hc:cut (bl S)=.ok ws):
 ∃ s:PS,s.pb=w.heap.size/\s.ws=ws/\s.e=S.size/\s.wa=A/\PAt (w.alloc (.cells #[.slice A ws.length cap,.int .i64 0,.int .i64 (S.size:Int),.int .i64 0] 65)) s 0 0:=by
 have hg:=cut_good hc;have hf:=cut_fine (bl S);rw [hc] at hf;have hS:=cut_size hc;rw [bl_len] at hg hS;have hb:=Boxd.new w #[.slice A ws.length cap,.int .i64 0,.int .i64 (S.size:Int),.int .i64 0] 65;have hlt:=hv.lt;have hword:∀ (i:Nat) (v:W),ws[i]? =some v->v.at_<=S.size/\WordOk 1048576 v:=fun i v h=>⟨by have:=(hf v (List.mem_of_getElem? h)).1;rwa [bl_len] at this,(hg.word v (List.mem_of_getElem? h)).mono hS⟩;have hal:=(qb w.heap.size w).alloc (qa _) (.cells #[.slice A ws.length cap,.int .i64 0,.int .i64 (S.size:Int),.int .i64 0] 65);rcases hrow.2 with ⟨e,h0⟩|⟨g,cap',cur,e,hBg,hgg,hnc,hcm,hcs,htake⟩
 ·have hws:ws=[]:=List.length_eq_zero_iff.1 h0
  subst hws;cases e
  refine ⟨⟨w.heap.size,none,w.heap.size+1,0,[],S.size⟩,rfl,rfl,rfl,rfl,⟨⟨Nat.zero_le _,hS,qa _,Nat.zero_le _,by simp,hword,by simp;omega,by simp;omega⟩,hb.cell 0 _ rfl,hb.cell 1 _ rfl,hb.cell 2 _ rfl,hb.cell 3 _ rfl,hb.fz,fun h=>absurd rfl h,⟨fun i v h=>by simp at h⟩,hv.later hal (qa _)⟩⟩
 ·cases e
  have hgl:g<w.heap.size:=(ownsRow_lt hrow g rfl).2;have hcells:∀ (i:Nat) (v:W),ws[i]? =some v->∀ (j:Nat) (c:Value),(wcells v)[j]? =some c->(w.alloc (.cells #[.slice (some ⟨g,0,none⟩) ws.length cap,.int .i64 0,.int .i64 (S.size:Int),.int .i64 0] 65)).cell? ⟨g,i*3+j,none⟩=some c:=fun i v h j c hj=>by
   have hi:=(qn.1 h).1;have hj3:=(Array.getElem?_eq_some_iff.1 hj).1;rw [cell_of_heap (hal.block g hgl),hrow.cellAt _ (by simp at hj3;omega)];exact wflat_at ws i v h j c hj
  refine ⟨⟨w.heap.size,some ⟨g,0,none⟩,g,cap,ws,S.size⟩,rfl,rfl,rfl,rfl,⟨⟨qi hg.count hS,hS,hnc,hcm,Nat.ne_of_lt hgl,hword,by simp;omega,by simp;omega⟩,hb.cell 0 _ rfl,hb.cell 1 _ rfl,hb.cell 2 _ rfl,hb.cell 3 _ rfl,hb.fz,fun _=>by simp;omega,⟨fun i v h=>⟨rfl,by have:=hcells i v h 0 _ rfl;rwa [Nat.add_zero] at this,hcells i v h 1 _ rfl,hcells i v h 2 _ rfl⟩⟩,hv.later hal (qa _)⟩⟩
abbrev zeroTerm:Value:=.agg zeroT
def PRead (w:World) (r:R T) (e:Ending) (w':World):Prop:=
 match r with
 |.ok t=>∃ y G,e=.returned (.tuple #[y.val,.int .i64 0,.int .i64 0])/\Own w' t y G/\From [] w.heap.size w'.heap.size G/\Below w.heap.size w w'
 |.bad c p=>e=.returned (.tuple #[zeroTerm,.int .i64 p,.int .i64 c])/\Below w.heap.size w w'
theorem cut_is {S:ByteArray} {r:R (List W)} (hr:cut (bl S)=r) {w:World} (hv:Vars w):Calls Tryz.prog 25 #[.string S] w (PCut w r):=hr▸cut_calls S w hv
theorem all_is {s:PS} {n:Nat} {class_ at_:Int} {r:R T} (hr:all s.ws s.e n class_ at_=r) {w:World} (hP:PAt w s n 0):Calls Tryz.prog 28 #[.pointer (some ⟨s.pb,0,none⟩),.int .i64 class_,.int .i64 at_] w (PAll 61 s w r):=hr▸all_calls s n class_ at_ w hP
theorem read_calls (S:ByteArray) (class_:Int) (w:World) (hv:Vars w):Calls Tryz.prog 20 #[.string S,.int .i64 class_] w (PRead w (read (bl S) class_)):=by
 have hmf:∀ (fn:Fn) (first cap:Array Value) (w:World),(Instr.makeFunc fn first cap).run Tryz.prog w=.ok (.func fn first cap) w:=fun _ _ _ _=>rfl;obtain ⟨R0,hR0⟩:∃ R0,read (bl S) class_=R0:=⟨_,rfl⟩;rw [hR0];unfold read at hR0;rw [bl_len] at hR0;have T0:=hid (Three.new w zeroT 28 3 30);generalize hw3:((w.alloc (.cells zeroT 28)).alloc (.cells #[.int .i64 0] 3)).alloc (.cells #[.int .i64 0] 30)=w3 at T0;have HVl:=hid hv.lt;have HV3:=hid (hv.later T0.below (qa _));have HW3:=hid hw3;clear hv hw3;cases hc:cut (bl S) with
 |bad c p=>
  rw [hc] at hR0;have HR:=hid (show R.bad c p=R0 from hR0);have hne:c≠0:=by
   have:=cut_fine (bl S);rw [hc] at this;exact this.1
  have hc0:(c !=0)=true:=by simp [hne]
  have HCut:=hid (cut_is hc HV3.out);clear hR0 hc hne;go_enter_defers Tryz.func20,Tryz.ntmps20
  go_upto_region 1 with fail
  rw [HW3.out];have r1c:=T0.b1.cell 0 (.int .i64 0) rfl;have r1f:=T0.b1.fz;have r2c:=T0.b2.cell 0 (.int .i64 0) rfl;have r2f:=T0.b2.fz;go_upto_region 2 with (go_at_call 25;refine HCut.mono ?_;intro e w4 hp;obtain ⟨rfl,hb⟩:=hp.wrong;have T4:=hid (T0.later hb);clear hb r1c r1f r2c r2f;have r1c:=T4.b1.cell 0 (.int .i64 0) rfl;have r1f:=T4.b1.fz;have r2c:=T4.b2.cell 0 (.int .i64 0) rfl;have r2f:=T4.b2.fz)
  generalize hW5:World.setCell (World.setCell w4 _ _) _ _=w5;have T5:=hid (show Three w zeroT p c w5 from hW5▸(T4.set1 p rfl).set2 c rfl);clear hW5 r1c r1f r2c r2f;have r1c:=T5.b1.cell 0 (.int .i64 p) rfl;have r1f:=T5.b1.fz;have r2c:=T5.b2.cell 0 (.int .i64 c) rfl;have r2f:=T5.b2.fz;have c0:=T5.b0.cell 0 (.int .i64 0) rfl;have c1:=T5.b0.cell 1 (.string ⟨#[]⟩) rfl;have c2:=T5.b0.cell 2 (.int .i64 0) rfl;have c3:=T5.b0.cell 3 (.slice none 0 0) rfl;have c4:=T5.b0.cell 4 (.slice none 0 0) rfl;have c5:=T5.b0.cell 5 (.slice none 0 0) rfl;have cf:=T5.b0.fz;go_upto_region 3 with fail
  go_region
  generalize hW6:World.drew _=w6;have T6:=hid (show Three w zeroT p c w6 from by rw [<-hW6];exact (((T5.term _ _ _ _ _ _).set1 p rfl).set2 c rfl).later (qb _ _).drew);clear hW6 c0 c1 c2 c3 c4 c5 cf r1c r1f r2c r2f;have c0:=T6.b0.cell 0 (.int .i64 0) rfl;have c1:=T6.b0.cell 1 (.string ⟨#[]⟩) rfl;have c2:=T6.b0.cell 2 (.int .i64 0) rfl;have c3:=T6.b0.cell 3 (.slice none 0 0) rfl;have c4:=T6.b0.cell 4 (.slice none 0 0) rfl;have c5:=T6.b0.cell 5 (.slice none 0 0) rfl;have cf:=T6.b0.fz;have r1c:=T6.b1.cell 0 (.int .i64 p) rfl;have r1f:=T6.b1.fz;have r2c:=T6.b2.cell 0 (.int .i64 c) rfl;have r2f:=T6.b2.fz;go_wp2_with fail
  refine ⟨.tuple #[zeroTerm,.int .i64 p,.int .i64 c],by simp [results,Tryz.results20,zeroTerm,TV.val,TV.cells,c0,c1,c2,c3,c4,c5,cf,r1c,r1f,r2c,r2f,go_sem],?_⟩;rw [<-HR.out];exact ⟨rfl,T6.below⟩
 |ok ws=>
  rw [hc] at hR0;have HC:=hid hc;have HCut:=hid (cut_is hc HV3.out);replace hR0:all ws S.size 0 class_ 0=R0:=hR0;have HR:=hid hR0;clear hR0 hc;go_enter_defers Tryz.func20,Tryz.ntmps20
  go_upto_region 1 with fail
  rw [HW3.out];have r1c:=T0.b1.cell 0 (.int .i64 0) rfl;have r1f:=T0.b1.fz;have r2c:=T0.b2.cell 0 (.int .i64 0) rfl;have r2f:=T0.b2.fz;go_upto_region 2 with (go_at_call 25;refine HCut.mono ?_;intro e w4 hp;obtain ⟨A,cap,rfl,hrow,hb⟩:=hp.good;have T4:=hid (T0.later hb);have HRow:=hid hrow;have HV4:=hid (HV3.later hb (qa _));clear hb hrow r1c r1f r2c r2f;have r1c:=T4.b1.cell 0 (.int .i64 0) rfl;have r1f:=T4.b1.fz;have r2c:=T4.b2.cell 0 (.int .i64 0) rfl;have r2f:=T4.b2.fz)
  generalize hW5:World.setCell (World.setCell w4 _ _) _ _=w5;have T5:=hid (show Three w zeroT 0 0 w5 from hW5▸(T4.set1 0 rfl).set2 0 rfl);have HRow5:=hid (show w5.ownsRow w3.heap.size 67 3 (.slice A ws.length cap) ws.length (wflat ws) from by
   refine ownsRow_kept HRow.out (fun g hg=>?_);have h1:=(ownsRow_lt HRow.out g hg).1;have h2:=T0.lt;rw [<-hW5,qh _ _ _ _ (by simp;omega),qh _ _ _ _ (by simp;omega)])
  have HV5:=hid (show Vars w5 from by
   have h1:=HVl.out;rw [<-hW5];exact (HV4.set (fun e=>by have e:_=w.heap.size+1:=e;omega) (fun e=>by have e:_=w.heap.size+1:=e;omega) _).set (fun e=>by have e:_=w.heap.size+2:=e;omega) (fun e=>by have e:_=w.heap.size+2:=e;omega) _)
  clear hW5 r1c r1f r2c r2f hp;have r1c:=T5.b1.cell 0 (.int .i64 0) rfl;have r1f:=T5.b1.fz;have r2c:=T5.b2.cell 0 (.int .i64 0) rfl;have r2f:=T5.b2.fz;obtain ⟨s,hpb,hws,he,-,hP⟩:=PAt.start HV5.out HRow5.out HC.out;have T6:=hid (T5.later ((qb w5.heap.size w5).alloc (qa _) (.cells #[.slice A ws.length cap,.int .i64 0,.int .i64 (S.size:Int),.int .i64 0] 65)));have hr2:=HR.out;rw [<-hws,<-he] at hr2;have hall:=all_is hr2 hP;rw [hpb] at hall;have hlt6:=T5.lt;go_upto_region 6 with fail
  generalize hW6:w5.alloc (.cells #[.slice A ws.length cap,.int .i64 0,.int .i64 (S.size:Int),.int .i64 0] 65)=w6 at T6 hall ⊢;have hs6:w5.heap.size<w6.heap.size:=by rw [<-hW6];simp
  have HAll:=hid hall;have HPb:=hid (show s.pb=w5.heap.size/\w.heap.size+2<w5.heap.size/\w5.heap.size<w6.heap.size from ⟨hpb,hlt6,hs6⟩);clear hall hr2 hP hpb hws he hW6 hs6 hlt6 r1c r1f r2c r2f;cases R0 with
  |ok t=>
   go_wp2_with (go_at_call 28;refine HAll.mono ?_;intro e w7 hp;obtain ⟨y,G,rfl,hO,hG,hA⟩:=hp;have T7:=hid (T6.away hA (by have:=HPb.out;omega));have HO:=hid hO;have HG:=hid hG;have HA:=hid hA.size;clear hO hG hA;simp only [TV.val,TV.cells];obtain ⟨c0,c1,c2,c3,c4,c5⟩:=T7.b0.rz rfl;have cf:=T7.b0.fz;have r1c:=T7.b1.cell 0 (.int .i64 0) rfl;have r1f:=T7.b1.fz;have r2c:=T7.b2.cell 0 (.int .i64 0) rfl;have r2f:=T7.b2.fz)
   generalize hW8:World.setCell (World.setCell _ _ _) _ _=w8;have T8:=hid (show Three w y.cells 0 0 w8 from by rw [<-hW8];exact ((T7.term _ _ _ _ _ _).set1 0 rfl).set2 0 rfl);have HO8:=hid (show Own w8 t y G from by
    refine Own.kept t y G HO.out (fun b hb=>?_);have h1:=((HG.mem b hb).resolve_left (by simp)).1;have h2:=HPb.out;rw [<-hW8];exact three_rest _ (by omega) _ _ _ _ _ _ _ _)
   have HS8:=hid (show w8.heap.size=w7.heap.size from by rw [<-hW8];simp [World.setCell]);clear hW8 c0 c1 c2 c3 c4 c5 cf r1c r1f r2c r2f;refine leaves_cons (f:=42) (args:=#[.pointer (some ⟨w.heap.size+1,0,none⟩),.pointer (some ⟨w.heap.size+1+1,0,none⟩)]) (by simp) (by simp [go_sem]) ?_;refine (catch_idle _ _ _).mono ?_;rintro e u' w9 ⟨rfl,rfl,hb9⟩;have T9:=hid (T8.later hb9);have c0:=T9.b0.cell 0 (.int .i64 y.kind) rfl;have c1:=T9.b0.cell 1 (.string y.text) rfl;have c2:=T9.b0.cell 2 (.int .i64 y.n) rfl;have c3:=T9.b0.cell 3 (.slice y.sa y.sl y.sc) rfl;have c4:=T9.b0.cell 4 (.slice y.aa y.al y.ac) rfl;have c5:=T9.b0.cell 5 (.slice y.ka y.kl y.kc) rfl;have cf:=T9.b0.fz;have r1c:=T9.b1.cell 0 (.int .i64 0) rfl;have r1f:=T9.b1.fz;have r2c:=T9.b2.cell 0 (.int .i64 0) rfl;have r2f:=T9.b2.fz;refine ⟨.tuple #[y.val,.int .i64 0,.int .i64 0],by simp [results,Tryz.results20,zeroTerm,TV.val,TV.cells,c0,c1,c2,c3,c4,c5,cf,r1c,r1f,r2c,r2f,go_sem],?_⟩;exact ⟨y,G,rfl,Own.later' HO8.out hb9,HG.mono (by have:=HPb.out;omega) (by have:=HS8.out;have:=hb9.size;omega),T9.below⟩
  |bad c p=>
   go_wp2_with (go_at_call 28;refine HAll.mono ?_;intro e w7 hp;obtain ⟨rfl,hA⟩:=hp;have T7:=hid (T6.away hA (by have:=HPb.out;omega));clear hA)
   refine leaves_cons (f:=42) (args:=#[.pointer (some ⟨w.heap.size+1,0,none⟩),.pointer (some ⟨w.heap.size+1+1,0,none⟩)]) (by simp) (by simp [go_sem]) ?_;refine (catch_fault (w.heap.size+1) (w.heap.size+1+1) c p [] w7 (.int .i64 0) (.int .i64 0) (by omega) (by omega) (T7.b1.cell 0 _ rfl) (T7.b1.fz 0) (T7.b2.cell 0 _ rfl) (T7.b2.fz 0)).mono ?_;rintro e u' w9 ⟨rfl,rfl,hb9⟩;have T9:=hid (((T7.set1 p rfl).set2 c rfl).later (by simpa [World.setCell] using hb9));have c0:=T9.b0.cell 0 (.int .i64 0) rfl;have c1:=T9.b0.cell 1 (.string ⟨#[]⟩) rfl;have c2:=T9.b0.cell 2 (.int .i64 0) rfl;have c3:=T9.b0.cell 3 (.slice none 0 0) rfl;have c4:=T9.b0.cell 4 (.slice none 0 0) rfl;have c5:=T9.b0.cell 5 (.slice none 0 0) rfl;have cf:=T9.b0.fz;have r1c:=T9.b1.cell 0 (.int .i64 p) rfl;have r1f:=T9.b1.fz;have r2c:=T9.b2.cell 0 (.int .i64 c) rfl;have r2f:=T9.b2.fz;refine ⟨.tuple #[zeroTerm,.int .i64 p,.int .i64 c],by simp [results,Tryz.results20,zeroTerm,TV.val,TV.cells,c0,c1,c2,c3,c4,c5,cf,r1c,r1f,r2c,r2f,go_sem],?_⟩;exact ⟨rfl,T9.below⟩
end Pz
end Go.Proofs.YtimcmghhbdfjfaaGreatDoor
