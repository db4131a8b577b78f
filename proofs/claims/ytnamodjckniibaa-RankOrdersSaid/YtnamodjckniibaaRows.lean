/-
  No cell of these rows narrows 'for every input' (looked for: loops, veiled, ifaces, maps, wideKeys, modest, calm, conditions, laid).
  DERIVED. THE GIVEN ROWS OF THIS SEAT. 9 by the template 'for every input the law returns true; each argument reads behind the call as it read before'; 0 by the template 'total and deterministic' (their statements: YtnamodjckniibaaTotals.lean).
  GIVEN WITH THE SEED: the statements are not yours to turn. If you find one false, say at which input.
  Laid BY PROGRAM, IN A SANDBOX (cutbox-rows.mjs): the forced cells as the released guide's own fill.sh prints them over the translation 67e066d4871f1121… (all of the seat's roots in one cut). By AI agents, Wed Nov 11 2026. No macro, syntax, notation, axiom, sorry.
-/
import Derived.Test.YtnamodjckniibaaChecked
import GoSem.Claim
import GoSem.ClaimJoined
import GoSem.ClaimMapViews
import Derived.JoinedTies
import Derived.KernelRfl
namespace Go.Proofs.Ytnamodjckniibaa
/- THE CELL 'sum', in the pinned program and in every row, IS THE sha256 OF THE DUMP (.gsa) THAT YtnamodjckniibaaProg.lean LOADS. Nothing in Lean hashes anything: it is a label: what it is worth is what the hold of that sum in a sandbox is worth. -/
noncomputable def Try.pinned : Pinned := { name := "ytnamodjckniibaa", sum := "67e066d4871f1121ce6fc83621750271c93f9ae1668b87c19a778a8da2b78f49", checked := Try.checked }
namespace Rows
def none {H : Type} : Left H := { results := [], args := [] }

/-- 'lockkeeperlaw19.RankRises': WHATEVER THE INPUT: true; the input reads as it did. -/
def rankRisesSpec : ChangeSpec := { name := "rankRises", fn := fun _ => fun
  | [d1, d2, d3, d4, d5] => { results := [.lit (.bool true)], args := [d1, d2, d3, d4, d5] }
  | _ => none }
def rankRisesRow : OpenClaim := { program := "ytnamodjckniibaa", sum := "67e066d4871f1121ce6fc83621750271c93f9ae1668b87c19a778a8da2b78f49", func := "lockkeeper/lockkeeperlaw19.RankRises", spec := "rankRises", apart := false }
def RankRisesSaid : Prop := rankRisesRow.holds Try.pinned (OpenSpec.ofChange rankRisesSpec)

/-- ITS FALSE NEIGHBOUR: 'it returns false'. Refute it at one input. -/
def rankRisesWrong : ChangeSpec := { name := "rankRises", fn := fun _ => fun
  | [d1, d2, d3, d4, d5] => { results := [.lit (.bool false)], args := [d1, d2, d3, d4, d5] }
  | _ => none }
def RankRisesWrongFalsely : Prop := rankRisesRow.holds Try.pinned (OpenSpec.ofChange rankRisesWrong)

/-- 'lockkeeperlaw19.RankWaits': WHATEVER THE INPUT: true; the input reads as it did. -/
def rankWaitsSpec : ChangeSpec := { name := "rankWaits", fn := fun _ => fun
  | [d1, d2] => { results := [.lit (.bool true)], args := [d1, d2] }
  | _ => none }
def rankWaitsRow : OpenClaim := { program := "ytnamodjckniibaa", sum := "67e066d4871f1121ce6fc83621750271c93f9ae1668b87c19a778a8da2b78f49", func := "lockkeeper/lockkeeperlaw19.RankWaits", spec := "rankWaits", apart := false }
def RankWaitsSaid : Prop := rankWaitsRow.holds Try.pinned (OpenSpec.ofChange rankWaitsSpec)

/-- ITS FALSE NEIGHBOUR: 'it returns false'. Refute it at one input. -/
def rankWaitsWrong : ChangeSpec := { name := "rankWaits", fn := fun _ => fun
  | [d1, d2] => { results := [.lit (.bool false)], args := [d1, d2] }
  | _ => none }
def RankWaitsWrongFalsely : Prop := rankWaitsRow.holds Try.pinned (OpenSpec.ofChange rankWaitsWrong)

/-- 'lockkeeperlaw2.TickPlays': WHATEVER THE INPUT: true; the input reads as it did. -/
def tickPlaysSpec : ChangeSpec := { name := "tickPlays", fn := fun _ => fun
  | [d1, d2, d3] => { results := [.lit (.bool true)], args := [d1, d2, d3] }
  | _ => none }
def tickPlaysRow : OpenClaim := { program := "ytnamodjckniibaa", sum := "67e066d4871f1121ce6fc83621750271c93f9ae1668b87c19a778a8da2b78f49", func := "lockkeeper/lockkeeperlaw2.TickPlays", spec := "tickPlays", inPlace := ["sync/atomic.StoreUint64", "sync/atomic.LoadUint64"], apart := false }
def TickPlaysSaid : Prop := tickPlaysRow.holds Try.pinned (OpenSpec.ofChange tickPlaysSpec)

/-- ITS FALSE NEIGHBOUR: 'it returns false'. Refute it at one input. -/
def tickPlaysWrong : ChangeSpec := { name := "tickPlays", fn := fun _ => fun
  | [d1, d2, d3] => { results := [.lit (.bool false)], args := [d1, d2, d3] }
  | _ => none }
def TickPlaysWrongFalsely : Prop := tickPlaysRow.holds Try.pinned (OpenSpec.ofChange tickPlaysWrong)

/-- 'lockkeeperlaw2.TickSums': WHATEVER THE INPUT: true; the input reads as it did. -/
def tickSumsSpec : ChangeSpec := { name := "tickSums", fn := fun _ => fun
  | [d1, d2, d3] => { results := [.lit (.bool true)], args := [d1, d2, d3] }
  | _ => none }
def tickSumsRow : OpenClaim := { program := "ytnamodjckniibaa", sum := "67e066d4871f1121ce6fc83621750271c93f9ae1668b87c19a778a8da2b78f49", func := "lockkeeper/lockkeeperlaw2.TickSums", spec := "tickSums", inPlace := ["sync/atomic.StoreUint64", "sync/atomic.LoadUint64"], apart := false }
def TickSumsSaid : Prop := tickSumsRow.holds Try.pinned (OpenSpec.ofChange tickSumsSpec)

/-- ITS FALSE NEIGHBOUR: 'it returns false'. Refute it at one input. -/
def tickSumsWrong : ChangeSpec := { name := "tickSums", fn := fun _ => fun
  | [d1, d2, d3] => { results := [.lit (.bool false)], args := [d1, d2, d3] }
  | _ => none }
def TickSumsWrongFalsely : Prop := tickSumsRow.holds Try.pinned (OpenSpec.ofChange tickSumsWrong)

/-- 'lockkeeperlaw2.TickTwo': WHATEVER THE INPUT: true; the input reads as it did. -/
def tickTwoSpec : ChangeSpec := { name := "tickTwo", fn := fun _ => fun
  | [d1, d2, d3] => { results := [.lit (.bool true)], args := [d1, d2, d3] }
  | _ => none }
def tickTwoRow : OpenClaim := { program := "ytnamodjckniibaa", sum := "67e066d4871f1121ce6fc83621750271c93f9ae1668b87c19a778a8da2b78f49", func := "lockkeeper/lockkeeperlaw2.TickTwo", spec := "tickTwo", inPlace := ["sync/atomic.StoreUint64", "sync/atomic.LoadUint64"], apart := false }
def TickTwoSaid : Prop := tickTwoRow.holds Try.pinned (OpenSpec.ofChange tickTwoSpec)

/-- ITS FALSE NEIGHBOUR: 'it returns false'. Refute it at one input. -/
def tickTwoWrong : ChangeSpec := { name := "tickTwo", fn := fun _ => fun
  | [d1, d2, d3] => { results := [.lit (.bool false)], args := [d1, d2, d3] }
  | _ => none }
def TickTwoWrongFalsely : Prop := tickTwoRow.holds Try.pinned (OpenSpec.ofChange tickTwoWrong)

/-- 'lockkeeperlaw19.RankAll': WHATEVER THE INPUT: true; the input reads as it did. -/
def rankAllSpec : ChangeSpec := { name := "rankAll", fn := fun _ => fun
  | [d1, d2, d3, d4, d5, d6] => { results := [.lit (.bool true)], args := [d1, d2, d3, d4, d5, d6] }
  | _ => none }
def rankAllRow : OpenClaim := { program := "ytnamodjckniibaa", sum := "67e066d4871f1121ce6fc83621750271c93f9ae1668b87c19a778a8da2b78f49", func := "lockkeeper/lockkeeperlaw19.RankAll", spec := "rankAll", apart := false }
def RankAllSaid : Prop := rankAllRow.holds Try.pinned (OpenSpec.ofChange rankAllSpec)

/-- ITS FALSE NEIGHBOUR: 'it returns false'. Refute it at one input. -/
def rankAllWrong : ChangeSpec := { name := "rankAll", fn := fun _ => fun
  | [d1, d2, d3, d4, d5, d6] => { results := [.lit (.bool false)], args := [d1, d2, d3, d4, d5, d6] }
  | _ => none }
def RankAllWrongFalsely : Prop := rankAllRow.holds Try.pinned (OpenSpec.ofChange rankAllWrong)

/-- 'lockkeeperlaw19.RankOrders': WHATEVER THE INPUT: true; the input reads as it did. -/
def rankOrdersSpec : ChangeSpec := { name := "rankOrders", fn := fun _ => fun
  | [d1, d2, d3, d4, d5] => { results := [.lit (.bool true)], args := [d1, d2, d3, d4, d5] }
  | _ => none }
def rankOrdersRow : OpenClaim := { program := "ytnamodjckniibaa", sum := "67e066d4871f1121ce6fc83621750271c93f9ae1668b87c19a778a8da2b78f49", func := "lockkeeper/lockkeeperlaw19.RankOrders", spec := "rankOrders", apart := false }
def RankOrdersSaid : Prop := rankOrdersRow.holds Try.pinned (OpenSpec.ofChange rankOrdersSpec)

/-- ITS FALSE NEIGHBOUR: 'it returns false'. Refute it at one input. -/
def rankOrdersWrong : ChangeSpec := { name := "rankOrders", fn := fun _ => fun
  | [d1, d2, d3, d4, d5] => { results := [.lit (.bool false)], args := [d1, d2, d3, d4, d5] }
  | _ => none }
def RankOrdersWrongFalsely : Prop := rankOrdersRow.holds Try.pinned (OpenSpec.ofChange rankOrdersWrong)

/-- 'lockkeeperlaw2.TickAll': WHATEVER THE INPUT: true; the input reads as it did. -/
def tickAllSpec : ChangeSpec := { name := "tickAll", fn := fun _ => fun
  | [d1, d2] => { results := [.lit (.bool true)], args := [d1, d2] }
  | _ => none }
def tickAllRow : OpenClaim := { program := "ytnamodjckniibaa", sum := "67e066d4871f1121ce6fc83621750271c93f9ae1668b87c19a778a8da2b78f49", func := "lockkeeper/lockkeeperlaw2.TickAll", spec := "tickAll", inPlace := ["sync/atomic.StoreUint64", "sync/atomic.LoadUint64"], apart := false }
def TickAllSaid : Prop := tickAllRow.holds Try.pinned (OpenSpec.ofChange tickAllSpec)

/-- ITS FALSE NEIGHBOUR: 'it returns false'. Refute it at one input. -/
def tickAllWrong : ChangeSpec := { name := "tickAll", fn := fun _ => fun
  | [d1, d2] => { results := [.lit (.bool false)], args := [d1, d2] }
  | _ => none }
def TickAllWrongFalsely : Prop := tickAllRow.holds Try.pinned (OpenSpec.ofChange tickAllWrong)

/-- 'lockkeeperlaw2.TickLefts': WHATEVER THE INPUT: true; the input reads as it did. -/
def tickLeftsSpec : ChangeSpec := { name := "tickLefts", fn := fun _ => fun
  | [d1, d2] => { results := [.lit (.bool true)], args := [d1, d2] }
  | _ => none }
def tickLeftsRow : OpenClaim := { program := "ytnamodjckniibaa", sum := "67e066d4871f1121ce6fc83621750271c93f9ae1668b87c19a778a8da2b78f49", func := "lockkeeper/lockkeeperlaw2.TickLefts", spec := "tickLefts", inPlace := ["sync/atomic.StoreUint64", "sync/atomic.LoadUint64"], apart := false }
def TickLeftsSaid : Prop := tickLeftsRow.holds Try.pinned (OpenSpec.ofChange tickLeftsSpec)

/-- ITS FALSE NEIGHBOUR: 'it returns false'. Refute it at one input. -/
def tickLeftsWrong : ChangeSpec := { name := "tickLefts", fn := fun _ => fun
  | [d1, d2] => { results := [.lit (.bool false)], args := [d1, d2] }
  | _ => none }
def TickLeftsWrongFalsely : Prop := tickLeftsRow.holds Try.pinned (OpenSpec.ofChange tickLeftsWrong)

/- THE SECOND FORM. 'bulk': how many values and letters a reading holds, each counted each time it is reached (what is shared counts as often as it is met; a slice's spare places count too). A statement '..UptoSaid' is the law's where the arguments, and the package variables that the reading takes, are together of bulk at most 1048576: NARROWER than '..Said'. Prove '..Said' where nothing that the law and all that it calls make is longer than what came in: it says more and counts as full. Else prove '..UptoSaid'. A law counts once. -/
mutual
def uptoBulk {H : Type} : DataW H → Nat
  | .lit (.string bytes) => bytes.length + 1
  | .lit _ => 1
  | .nil => 1
  | .ptr d => uptoBulk d + 1
  | .slice elems spare => uptoBulkAll elems + uptoBulkAll spare + 1
  | .agg parts => uptoBulkAll parts + 1
  | .iface _ d => uptoBulk d + 1
  | .map entries => uptoBulkEntries entries + 1
  | .held _ => 1
def uptoBulkAll {H : Type} : List (DataW H) → Nat
  | [] => 0
  | d :: r => uptoBulk d + uptoBulkAll r
def uptoBulkEntries {H : Type} : List (Lit × DataW H) → Nat
  | [] => 0
  | x :: r => uptoBulkEntry x + uptoBulkEntries r
def uptoBulkEntry {H : Type} : Lit × DataW H → Nat
  | (.string bytes, d) => bytes.length + uptoBulk d + 1
  | (_, d) => uptoBulk d + 1
 end
def uptoSmall : (H : Type) → List (DataW H) → Bool := fun _ ds => decide (uptoBulkAll ds ≤ 1048576)
def OpenSpec.upto (s : _root_.Go.ChangeSpec) : _root_.Go.OpenSpec := { _root_.Go.OpenSpec.ofChange s with cond := some uptoSmall }

/-- 'lockkeeperlaw19.RankRises', WHERE WHAT IT READS IS OF BULK AT MOST 1048576: true; the input reads as it did. -/
def rankRisesUptoRow : OpenClaim := { program := "ytnamodjckniibaa", sum := "67e066d4871f1121ce6fc83621750271c93f9ae1668b87c19a778a8da2b78f49", func := "lockkeeper/lockkeeperlaw19.RankRises", spec := "rankRises", apart := false, narrowed := true }
def RankRisesUptoSaid : Prop := rankRisesUptoRow.holds Try.pinned (OpenSpec.upto rankRisesSpec)

/-- 'lockkeeperlaw19.RankWaits', WHERE WHAT IT READS IS OF BULK AT MOST 1048576: true; the input reads as it did. -/
def rankWaitsUptoRow : OpenClaim := { program := "ytnamodjckniibaa", sum := "67e066d4871f1121ce6fc83621750271c93f9ae1668b87c19a778a8da2b78f49", func := "lockkeeper/lockkeeperlaw19.RankWaits", spec := "rankWaits", apart := false, narrowed := true }
def RankWaitsUptoSaid : Prop := rankWaitsUptoRow.holds Try.pinned (OpenSpec.upto rankWaitsSpec)

/-- 'lockkeeperlaw2.TickPlays', WHERE WHAT IT READS IS OF BULK AT MOST 1048576: true; the input reads as it did. -/
def tickPlaysUptoRow : OpenClaim := { program := "ytnamodjckniibaa", sum := "67e066d4871f1121ce6fc83621750271c93f9ae1668b87c19a778a8da2b78f49", func := "lockkeeper/lockkeeperlaw2.TickPlays", spec := "tickPlays", inPlace := ["sync/atomic.StoreUint64", "sync/atomic.LoadUint64"], apart := false, narrowed := true }
def TickPlaysUptoSaid : Prop := tickPlaysUptoRow.holds Try.pinned (OpenSpec.upto tickPlaysSpec)

/-- 'lockkeeperlaw2.TickSums', WHERE WHAT IT READS IS OF BULK AT MOST 1048576: true; the input reads as it did. -/
def tickSumsUptoRow : OpenClaim := { program := "ytnamodjckniibaa", sum := "67e066d4871f1121ce6fc83621750271c93f9ae1668b87c19a778a8da2b78f49", func := "lockkeeper/lockkeeperlaw2.TickSums", spec := "tickSums", inPlace := ["sync/atomic.StoreUint64", "sync/atomic.LoadUint64"], apart := false, narrowed := true }
def TickSumsUptoSaid : Prop := tickSumsUptoRow.holds Try.pinned (OpenSpec.upto tickSumsSpec)

/-- 'lockkeeperlaw2.TickTwo', WHERE WHAT IT READS IS OF BULK AT MOST 1048576: true; the input reads as it did. -/
def tickTwoUptoRow : OpenClaim := { program := "ytnamodjckniibaa", sum := "67e066d4871f1121ce6fc83621750271c93f9ae1668b87c19a778a8da2b78f49", func := "lockkeeper/lockkeeperlaw2.TickTwo", spec := "tickTwo", inPlace := ["sync/atomic.StoreUint64", "sync/atomic.LoadUint64"], apart := false, narrowed := true }
def TickTwoUptoSaid : Prop := tickTwoUptoRow.holds Try.pinned (OpenSpec.upto tickTwoSpec)

/-- 'lockkeeperlaw19.RankAll', WHERE WHAT IT READS IS OF BULK AT MOST 1048576: true; the input reads as it did. -/
def rankAllUptoRow : OpenClaim := { program := "ytnamodjckniibaa", sum := "67e066d4871f1121ce6fc83621750271c93f9ae1668b87c19a778a8da2b78f49", func := "lockkeeper/lockkeeperlaw19.RankAll", spec := "rankAll", apart := false, narrowed := true }
def RankAllUptoSaid : Prop := rankAllUptoRow.holds Try.pinned (OpenSpec.upto rankAllSpec)

/-- 'lockkeeperlaw19.RankOrders', WHERE WHAT IT READS IS OF BULK AT MOST 1048576: true; the input reads as it did. -/
def rankOrdersUptoRow : OpenClaim := { program := "ytnamodjckniibaa", sum := "67e066d4871f1121ce6fc83621750271c93f9ae1668b87c19a778a8da2b78f49", func := "lockkeeper/lockkeeperlaw19.RankOrders", spec := "rankOrders", apart := false, narrowed := true }
def RankOrdersUptoSaid : Prop := rankOrdersUptoRow.holds Try.pinned (OpenSpec.upto rankOrdersSpec)

/-- 'lockkeeperlaw2.TickAll', WHERE WHAT IT READS IS OF BULK AT MOST 1048576: true; the input reads as it did. -/
def tickAllUptoRow : OpenClaim := { program := "ytnamodjckniibaa", sum := "67e066d4871f1121ce6fc83621750271c93f9ae1668b87c19a778a8da2b78f49", func := "lockkeeper/lockkeeperlaw2.TickAll", spec := "tickAll", inPlace := ["sync/atomic.StoreUint64", "sync/atomic.LoadUint64"], apart := false, narrowed := true }
def TickAllUptoSaid : Prop := tickAllUptoRow.holds Try.pinned (OpenSpec.upto tickAllSpec)

/-- 'lockkeeperlaw2.TickLefts', WHERE WHAT IT READS IS OF BULK AT MOST 1048576: true; the input reads as it did. -/
def tickLeftsUptoRow : OpenClaim := { program := "ytnamodjckniibaa", sum := "67e066d4871f1121ce6fc83621750271c93f9ae1668b87c19a778a8da2b78f49", func := "lockkeeper/lockkeeperlaw2.TickLefts", spec := "tickLefts", inPlace := ["sync/atomic.StoreUint64", "sync/atomic.LoadUint64"], apart := false, narrowed := true }
def TickLeftsUptoSaid : Prop := tickLeftsUptoRow.holds Try.pinned (OpenSpec.upto tickLeftsSpec)

end Rows
end Go.Proofs.Ytnamodjckniibaa
