/-
  No cell of these rows narrows 'for every input' (looked for: loops, veiled, ifaces, maps, wideKeys, modest, calm, conditions, laid).
  DERIVED. THE GIVEN ROWS OF THIS SEAT. 4 by the template 'for every input the law returns true; each argument reads behind the call as it read before'; 0 by the template 'total and deterministic' (their statements: YtjmjnahihkhonaaTotals.lean).
  GIVEN WITH THE SEED: the statements are not yours to turn. If you find one false, say at which input.
  Laid BY PROGRAM, IN A SANDBOX (cutbox-rows.mjs): the forced cells as the released guide's own fill.sh prints them over the translation 96eea907ae16a869… (all of the seat's roots in one cut). By AI agents, Wed Nov 11 2026. No macro, syntax, notation, axiom, sorry.
-/
import Derived.Test.YtjmjnahihkhonaaChecked
import GoSem.Claim
import GoSem.ClaimJoined
import GoSem.ClaimMapViews
import Derived.JoinedTies
import Derived.KernelRfl
namespace Go.Proofs.Ytjmjnahihkhonaa
/- THE CELL 'sum', in the pinned program and in every row, IS THE sha256 OF THE DUMP (.gsa) THAT YtjmjnahihkhonaaProg.lean LOADS. Nothing in Lean hashes anything: it is a label: what it is worth is what the hold of that sum in a sandbox is worth. -/
noncomputable def Try.pinned : Pinned := { name := "ytjmjnahihkhonaa", sum := "96eea907ae16a8696df9b44ba7b6034925c910df5476776736d3be924f5dc906", checked := Try.checked }
namespace Rows
def none {H : Type} : Left H := { results := [], args := [] }

/-- 'lockkeeperlaw5.MethodAll': WHATEVER THE INPUT: true; the input reads as it did. -/
def methodAllSpec : ChangeSpec := { name := "methodAll", fn := fun _ => fun
  | [d] => { results := [.lit (.bool true)], args := [d] }
  | _ => none }
def methodAllRow : OpenClaim := { program := "ytjmjnahihkhonaa", sum := "96eea907ae16a8696df9b44ba7b6034925c910df5476776736d3be924f5dc906", func := "lockkeeper/lockkeeperlaw5.MethodAll", spec := "methodAll", inPlace := ["internal/bytealg.IndexByteString"], apart := false }
def MethodAllSaid : Prop := methodAllRow.holds Try.pinned (OpenSpec.ofChange methodAllSpec)

/-- ITS FALSE NEIGHBOUR: 'it returns false'. Refute it at one input. -/
def methodAllWrong : ChangeSpec := { name := "methodAll", fn := fun _ => fun
  | [d] => { results := [.lit (.bool false)], args := [d] }
  | _ => none }
def MethodAllWrongFalsely : Prop := methodAllRow.holds Try.pinned (OpenSpec.ofChange methodAllWrong)

/-- 'lockkeeperlaw5.MethodTable': WHATEVER THE INPUT: true; the input reads as it did. -/
def methodTableSpec : ChangeSpec := { name := "methodTable", fn := fun _ => fun
  | [d] => { results := [.lit (.bool true)], args := [d] }
  | _ => none }
def methodTableRow : OpenClaim := { program := "ytjmjnahihkhonaa", sum := "96eea907ae16a8696df9b44ba7b6034925c910df5476776736d3be924f5dc906", func := "lockkeeper/lockkeeperlaw5.MethodTable", spec := "methodTable", inPlace := ["internal/bytealg.IndexByteString"], apart := false }
def MethodTableSaid : Prop := methodTableRow.holds Try.pinned (OpenSpec.ofChange methodTableSpec)

/-- ITS FALSE NEIGHBOUR: 'it returns false'. Refute it at one input. -/
def methodTableWrong : ChangeSpec := { name := "methodTable", fn := fun _ => fun
  | [d] => { results := [.lit (.bool false)], args := [d] }
  | _ => none }
def MethodTableWrongFalsely : Prop := methodTableRow.holds Try.pinned (OpenSpec.ofChange methodTableWrong)

/-- 'lockkeeperlaw5.MethodNorms': WHATEVER THE INPUT: true; the input reads as it did. -/
def methodNormsSpec : ChangeSpec := { name := "methodNorms", fn := fun _ => fun
  | [d] => { results := [.lit (.bool true)], args := [d] }
  | _ => none }
def methodNormsRow : OpenClaim := { program := "ytjmjnahihkhonaa", sum := "96eea907ae16a8696df9b44ba7b6034925c910df5476776736d3be924f5dc906", func := "lockkeeper/lockkeeperlaw5.MethodNorms", spec := "methodNorms", inPlace := ["internal/bytealg.IndexByteString"], apart := false }
def MethodNormsSaid : Prop := methodNormsRow.holds Try.pinned (OpenSpec.ofChange methodNormsSpec)

/-- ITS FALSE NEIGHBOUR: 'it returns false'. Refute it at one input. -/
def methodNormsWrong : ChangeSpec := { name := "methodNorms", fn := fun _ => fun
  | [d] => { results := [.lit (.bool false)], args := [d] }
  | _ => none }
def MethodNormsWrongFalsely : Prop := methodNormsRow.holds Try.pinned (OpenSpec.ofChange methodNormsWrong)

/-- 'lockkeeperlaw5.MethodSizes': WHATEVER THE INPUT: true; the input reads as it did. -/
def methodSizesSpec : ChangeSpec := { name := "methodSizes", fn := fun _ => fun
  | [d] => { results := [.lit (.bool true)], args := [d] }
  | _ => none }
def methodSizesRow : OpenClaim := { program := "ytjmjnahihkhonaa", sum := "96eea907ae16a8696df9b44ba7b6034925c910df5476776736d3be924f5dc906", func := "lockkeeper/lockkeeperlaw5.MethodSizes", spec := "methodSizes", inPlace := ["internal/bytealg.IndexByteString"], apart := false }
def MethodSizesSaid : Prop := methodSizesRow.holds Try.pinned (OpenSpec.ofChange methodSizesSpec)

/-- ITS FALSE NEIGHBOUR: 'it returns false'. Refute it at one input. -/
def methodSizesWrong : ChangeSpec := { name := "methodSizes", fn := fun _ => fun
  | [d] => { results := [.lit (.bool false)], args := [d] }
  | _ => none }
def MethodSizesWrongFalsely : Prop := methodSizesRow.holds Try.pinned (OpenSpec.ofChange methodSizesWrong)

/- THE SECOND FORM. 'bulk': how many values and letters a reading holds, each counted each time it is reached (what is shared counts as often as it is met; a slice's spare places count too). A statement '..UptoSaid' is the law's where the arguments, and the package variables that the reading takes, are together of bulk at most 1048576: NARROWER than '..Said'. Prove '..Said' where nothing that the law and all that it calls make is longer than what came in: it says more and counts as full. Else prove '..UptoSaid'. A law counts once. -/
mutual
def uptoBulk {H : Type} : DataW H → Nat
  | .lit (.string bytes) => bytes.length + 1
  | .lit _ => 1
  | .nil => 1
  | .ptr d => uptoBulk d + 1
  | .slice elems spare => uptoBulkAll elems + uptoBulkAll spare + 1
  | .agg parts => uptoBulkAll parts + 1
  | .iface _ d => uptoBulk d + 1
  | .map entries => uptoBulkEntries entries + 1
  | .held _ => 1
def uptoBulkAll {H : Type} : List (DataW H) → Nat
  | [] => 0
  | d :: r => uptoBulk d + uptoBulkAll r
def uptoBulkEntries {H : Type} : List (Lit × DataW H) → Nat
  | [] => 0
  | x :: r => uptoBulkEntry x + uptoBulkEntries r
def uptoBulkEntry {H : Type} : Lit × DataW H → Nat
  | (.string bytes, d) => bytes.length + uptoBulk d + 1
  | (_, d) => uptoBulk d + 1
 end
def uptoSmall : (H : Type) → List (DataW H) → Bool := fun _ ds => decide (uptoBulkAll ds ≤ 1048576)
def OpenSpec.upto (s : _root_.Go.ChangeSpec) : _root_.Go.OpenSpec := { _root_.Go.OpenSpec.ofChange s with cond := some uptoSmall }

/-- 'lockkeeperlaw5.MethodAll', WHERE WHAT IT READS IS OF BULK AT MOST 1048576: true; the input reads as it did. -/
def methodAllUptoRow : OpenClaim := { program := "ytjmjnahihkhonaa", sum := "96eea907ae16a8696df9b44ba7b6034925c910df5476776736d3be924f5dc906", func := "lockkeeper/lockkeeperlaw5.MethodAll", spec := "methodAll", inPlace := ["internal/bytealg.IndexByteString"], apart := false, narrowed := true }
def MethodAllUptoSaid : Prop := methodAllUptoRow.holds Try.pinned (OpenSpec.upto methodAllSpec)

/-- 'lockkeeperlaw5.MethodTable', WHERE WHAT IT READS IS OF BULK AT MOST 1048576: true; the input reads as it did. -/
def methodTableUptoRow : OpenClaim := { program := "ytjmjnahihkhonaa", sum := "96eea907ae16a8696df9b44ba7b6034925c910df5476776736d3be924f5dc906", func := "lockkeeper/lockkeeperlaw5.MethodTable", spec := "methodTable", inPlace := ["internal/bytealg.IndexByteString"], apart := false, narrowed := true }
def MethodTableUptoSaid : Prop := methodTableUptoRow.holds Try.pinned (OpenSpec.upto methodTableSpec)

/-- 'lockkeeperlaw5.MethodNorms', WHERE WHAT IT READS IS OF BULK AT MOST 1048576: true; the input reads as it did. -/
def methodNormsUptoRow : OpenClaim := { program := "ytjmjnahihkhonaa", sum := "96eea907ae16a8696df9b44ba7b6034925c910df5476776736d3be924f5dc906", func := "lockkeeper/lockkeeperlaw5.MethodNorms", spec := "methodNorms", inPlace := ["internal/bytealg.IndexByteString"], apart := false, narrowed := true }
def MethodNormsUptoSaid : Prop := methodNormsUptoRow.holds Try.pinned (OpenSpec.upto methodNormsSpec)

/-- 'lockkeeperlaw5.MethodSizes', WHERE WHAT IT READS IS OF BULK AT MOST 1048576: true; the input reads as it did. -/
def methodSizesUptoRow : OpenClaim := { program := "ytjmjnahihkhonaa", sum := "96eea907ae16a8696df9b44ba7b6034925c910df5476776736d3be924f5dc906", func := "lockkeeper/lockkeeperlaw5.MethodSizes", spec := "methodSizes", inPlace := ["internal/bytealg.IndexByteString"], apart := false, narrowed := true }
def MethodSizesUptoSaid : Prop := methodSizesUptoRow.holds Try.pinned (OpenSpec.upto methodSizesSpec)

end Rows
end Go.Proofs.Ytjmjnahihkhonaa
