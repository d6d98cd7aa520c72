/- Package slices. -/
import Derived.Test.YtimcmghhbdfjfaaGreatDoorQTermA
import Derived.Outline
import Derived.WalkSmall
set_option linter.unusedVariables false
set_option linter.unusedSimpArgs false
namespace Go.Proofs.YtimcmghhbdfjfaaGreatDoor
open Go.RowKit
theorem ownI_of_row {w:World} {base ty:Nat} {b n cap:Nat} {xs:List Int} (h:w.ownsRow base ty 1 (.slice (some ⟨b,0,none⟩) n cap) n (xs.map (Value.int .i64))):OwnI w ty (some ⟨b,0,none⟩) n cap xs [b]/\base<=b/\b<w.heap.size/\cap<=maxLen/\n<=cap:=by
 have h':=h;obtain ⟨hl,⟨h0,_⟩|⟨g,cap',cur,e,hg,hcur,h4,h5,h6,h7⟩⟩:=h
 ·cases h0
 ·cases e
  refine ⟨⟨by simpa using hl,.inr ⟨b,cur,rfl,rfl,hcur,h4,h5,by omega⟩,fun b' e i v hv=>?_⟩,hg,(Array.getElem?_eq_some_iff.1 hcur).1,h5,h4⟩;cases e
  have hlt:=(qn.1 hv).1;rw [h'.cellAt i (by simp at hl;omega),List.getElem?_map,hv];rfl
theorem info_int640:(Tryz.prog.info? 2).map (fun i=>(i.zero,i.size,i.bytes))=some (some (.int .i64 0),1,8):=by kernel_rfl
theorem grown_of_below {w w':World} (h:Below w.heap.size w w') (row:Option Nat):w.grownBy w' row:=⟨h.os,h.tape,h.output,h.size,fun k hk _=>h.block k hk⟩
def OwnK (w:World):List T->List TV->List Nat->Prop
 |[],[],F=>F=[]
 |t::l,y::ys,F=>∃ F1 F2,F=F1++F2/\Own w t y F1/\OwnK w l ys F2
 |_,_,_=>False
def rowCells (ys:List TV):List Value:=ys.flatMap fun y=>y.cells.toList
structure Grows (w0:World) (base:Nat) (l:List T) (ys:List TV) (k:Nat) (v:Value) (wr:World) (FK:List Nat):Prop where
 below:Below base w0 wr
 hbase:base<=wr.heap.size
 row:wr.ownsRow base 28 6 v k (rowCells ys)
 kids:OwnK wr (l.take k) ys FK
 fresh:Fresh base wr.heap.size FK
 apart:∀ g,v.ownBlock=some g->g ∉ FK
structure Box (w:World) (b:Nat) (x:TV):Prop where
 c0:w.cell? ⟨b,0,none⟩=some (.int .i64 x.kind)
 c1:w.cell? ⟨b,1,none⟩=some (.string x.text)
 c2:w.cell? ⟨b,2,none⟩=some (.int .i64 x.n)
 c3:w.cell? ⟨b,3,none⟩=some (.slice x.sa x.sl x.sc)
 c4:w.cell? ⟨b,4,none⟩=some (.slice x.aa x.al x.ac)
 c5:w.cell? ⟨b,5,none⟩=some (.slice x.ka x.kl x.kc)
 f:∀ o,w.frozen? ⟨b,o,none⟩=false
def zeroTV:TV:=⟨0,⟨#[]⟩,0,none,0,0,none,0,0,none,0,0⟩
end Go.Proofs.YtimcmghhbdfjfaaGreatDoor
