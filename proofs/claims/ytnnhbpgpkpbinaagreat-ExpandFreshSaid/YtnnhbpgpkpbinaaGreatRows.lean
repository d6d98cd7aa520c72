/-
  NARROWER THAN 'FOR EVERY INPUT', by the rows' own cells (each row's printed sentence says how): ExpandAll: loops · ExpandMay: loops · ExpandFresh: loops.
  DERIVED. THE GIVEN ROWS OF THIS SEAT. 3 by the template 'for every input the law returns true; each argument reads behind the call as it read before'; 0 by the template 'total and deterministic' (their statements: YtnnhbpgpkpbinaaGreatTotals.lean).
  GIVEN WITH THE SEED: the statements are not yours to turn. If you find one false, say at which input.
  Laid BY PROGRAM, IN A SANDBOX (cutbox-rows.mjs): the forced cells as the released guide's own fill.sh prints them over the translation 60667e0951038cdc… (all of the seat's roots in one cut). By AI agents, Wed Nov 11 2026. No macro, syntax, notation, axiom, sorry.
-/
import Derived.Test.YtnnhbpgpkpbinaaGreatChecked
import GoSem.Claim
import GoSem.ClaimJoined
import GoSem.ClaimMapViews
import Derived.JoinedTies
import Derived.KernelRfl
namespace Go.Proofs.YtnnhbpgpkpbinaaGreat
/- THE CELL 'sum', in the pinned program and in every row, IS THE sha256 OF THE DUMP (.gsa) THAT YtnnhbpgpkpbinaaGreatProg.lean LOADS. Nothing in Lean hashes anything: it is a label: what it is worth is what the hold of that sum in a sandbox is worth. -/
noncomputable def Tryz.pinned : Pinned := { name := "ytnnhbpgpkpbinaagreat", sum := "60667e0951038cdc158bf78ccd2287569f670c7b871b76225f38837431b80349", checked := Tryz.checked }
namespace Rows
def none {H : Type} : Left H := { results := [], args := [] }

/-- 'abacuslaw25.ExpandAll': WHATEVER THE INPUT: true; the input reads as it did. -/
def expandAllSpec : ChangeSpec := { name := "expandAll", fn := fun _ => fun
  | [d1, d2] => { results := [.lit (.bool true)], args := [d1, d2] }
  | _ => none }
def expandAllRow : OpenClaim := { program := "ytnnhbpgpkpbinaagreat", sum := "60667e0951038cdc158bf78ccd2287569f670c7b871b76225f38837431b80349", func := "abacus/abacuslaw25.ExpandAll", spec := "expandAll", unfollowed := true, recurses := true, named := ["math/bits.divideError", "math/bits.overflowError"], loops := true, apart := false }
def ExpandAllSaid : Prop := expandAllRow.holds Tryz.pinned (OpenSpec.ofChange expandAllSpec)

/-- ITS FALSE NEIGHBOUR: 'it returns false'. Refute it at one input. -/
def expandAllWrong : ChangeSpec := { name := "expandAll", fn := fun _ => fun
  | [d1, d2] => { results := [.lit (.bool false)], args := [d1, d2] }
  | _ => none }
def ExpandAllWrongFalsely : Prop := expandAllRow.holds Tryz.pinned (OpenSpec.ofChange expandAllWrong)

/-- 'abacuslaw25.ExpandMay': WHATEVER THE INPUT: true; the input reads as it did. -/
def expandMaySpec : ChangeSpec := { name := "expandMay", fn := fun _ => fun
  | [d1, d2] => { results := [.lit (.bool true)], args := [d1, d2] }
  | _ => none }
def expandMayRow : OpenClaim := { program := "ytnnhbpgpkpbinaagreat", sum := "60667e0951038cdc158bf78ccd2287569f670c7b871b76225f38837431b80349", func := "abacus/abacuslaw25.ExpandMay", spec := "expandMay", unfollowed := true, recurses := true, named := ["math/bits.divideError", "math/bits.overflowError"], loops := true, apart := false }
def ExpandMaySaid : Prop := expandMayRow.holds Tryz.pinned (OpenSpec.ofChange expandMaySpec)

/-- ITS FALSE NEIGHBOUR: 'it returns false'. Refute it at one input. -/
def expandMayWrong : ChangeSpec := { name := "expandMay", fn := fun _ => fun
  | [d1, d2] => { results := [.lit (.bool false)], args := [d1, d2] }
  | _ => none }
def ExpandMayWrongFalsely : Prop := expandMayRow.holds Tryz.pinned (OpenSpec.ofChange expandMayWrong)

/-- 'abacuslaw25.ExpandFresh': WHATEVER THE INPUT: true; the input reads as it did. -/
def expandFreshSpec : ChangeSpec := { name := "expandFresh", fn := fun _ => fun
  | [d] => { results := [.lit (.bool true)], args := [d] }
  | _ => none }
def expandFreshRow : OpenClaim := { program := "ytnnhbpgpkpbinaagreat", sum := "60667e0951038cdc158bf78ccd2287569f670c7b871b76225f38837431b80349", func := "abacus/abacuslaw25.ExpandFresh", spec := "expandFresh", unfollowed := true, recurses := true, named := ["math/bits.divideError", "math/bits.overflowError"], loops := true, apart := false }
def ExpandFreshSaid : Prop := expandFreshRow.holds Tryz.pinned (OpenSpec.ofChange expandFreshSpec)

/-- ITS FALSE NEIGHBOUR: 'it returns false'. Refute it at one input. -/
def expandFreshWrong : ChangeSpec := { name := "expandFresh", fn := fun _ => fun
  | [d] => { results := [.lit (.bool false)], args := [d] }
  | _ => none }
def ExpandFreshWrongFalsely : Prop := expandFreshRow.holds Tryz.pinned (OpenSpec.ofChange expandFreshWrong)

/- THE SECOND FORM. 'bulk': how many values and letters a reading holds, each counted each time it is reached (what is shared counts as often as it is met; a slice's spare places count too). A statement '..UptoSaid' is the law's where the arguments, and the package variables that the reading takes, are together of bulk at most 1048576: NARROWER than '..Said'. Prove '..Said' where nothing that the law and all that it calls make is longer than what came in: it says more and counts as full. Else prove '..UptoSaid'. A law counts once. -/
mutual
def uptoBulk {H : Type} : DataW H → Nat
  | .lit (.string bytes) => bytes.length + 1
  | .lit _ => 1
  | .nil => 1
  | .ptr d => uptoBulk d + 1
  | .slice elems spare => uptoBulkAll elems + uptoBulkAll spare + 1
  | .agg parts => uptoBulkAll parts + 1
  | .iface _ d => uptoBulk d + 1
  | .map entries => uptoBulkEntries entries + 1
  | .held _ => 1
def uptoBulkAll {H : Type} : List (DataW H) → Nat
  | [] => 0
  | d :: r => uptoBulk d + uptoBulkAll r
def uptoBulkEntries {H : Type} : List (Lit × DataW H) → Nat
  | [] => 0
  | x :: r => uptoBulkEntry x + uptoBulkEntries r
def uptoBulkEntry {H : Type} : Lit × DataW H → Nat
  | (.string bytes, d) => bytes.length + uptoBulk d + 1
  | (_, d) => uptoBulk d + 1
 end
def uptoSmall : (H : Type) → List (DataW H) → Bool := fun _ ds => decide (uptoBulkAll ds ≤ 1048576)
def OpenSpec.upto (s : _root_.Go.ChangeSpec) : _root_.Go.OpenSpec := { _root_.Go.OpenSpec.ofChange s with cond := some uptoSmall }

/-- 'abacuslaw25.ExpandAll', WHERE WHAT IT READS IS OF BULK AT MOST 1048576: true; the input reads as it did. -/
def expandAllUptoRow : OpenClaim := { program := "ytnnhbpgpkpbinaagreat", sum := "60667e0951038cdc158bf78ccd2287569f670c7b871b76225f38837431b80349", func := "abacus/abacuslaw25.ExpandAll", spec := "expandAll", unfollowed := true, recurses := true, named := ["math/bits.divideError", "math/bits.overflowError"], loops := true, apart := false, narrowed := true }
def ExpandAllUptoSaid : Prop := expandAllUptoRow.holds Tryz.pinned (OpenSpec.upto expandAllSpec)

/-- 'abacuslaw25.ExpandMay', WHERE WHAT IT READS IS OF BULK AT MOST 1048576: true; the input reads as it did. -/
def expandMayUptoRow : OpenClaim := { program := "ytnnhbpgpkpbinaagreat", sum := "60667e0951038cdc158bf78ccd2287569f670c7b871b76225f38837431b80349", func := "abacus/abacuslaw25.ExpandMay", spec := "expandMay", unfollowed := true, recurses := true, named := ["math/bits.divideError", "math/bits.overflowError"], loops := true, apart := false, narrowed := true }
def ExpandMayUptoSaid : Prop := expandMayUptoRow.holds Tryz.pinned (OpenSpec.upto expandMaySpec)

/-- 'abacuslaw25.ExpandFresh', WHERE WHAT IT READS IS OF BULK AT MOST 1048576: true; the input reads as it did. -/
def expandFreshUptoRow : OpenClaim := { program := "ytnnhbpgpkpbinaagreat", sum := "60667e0951038cdc158bf78ccd2287569f670c7b871b76225f38837431b80349", func := "abacus/abacuslaw25.ExpandFresh", spec := "expandFresh", unfollowed := true, recurses := true, named := ["math/bits.divideError", "math/bits.overflowError"], loops := true, apart := false, narrowed := true }
def ExpandFreshUptoSaid : Prop := expandFreshUptoRow.holds Tryz.pinned (OpenSpec.upto expandFreshSpec)

end Rows
end Go.Proofs.YtnnhbpgpkpbinaaGreat
