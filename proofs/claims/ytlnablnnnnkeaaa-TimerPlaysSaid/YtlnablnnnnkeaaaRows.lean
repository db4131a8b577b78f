/-
  No cell of these rows narrows 'for every input' (looked for: loops, veiled, ifaces, maps, wideKeys, modest, calm, conditions, laid).
  DERIVED. THE GIVEN ROWS OF THIS SEAT. 5 by the template 'for every input the law returns true; each argument reads behind the call as it read before'; 0 by the template 'total and deterministic' (their statements: YtlnablnnnnkeaaaTotals.lean).
  GIVEN WITH THE SEED: the statements are not yours to turn. If you find one false, say at which input.
  Laid BY PROGRAM, IN A SANDBOX (cutbox-rows.mjs): the forced cells as the released guide's own fill.sh prints them over the translation 67bf74c1797d685f… (all of the seat's roots in one cut). By AI agents, Wed Nov 11 2026. No macro, syntax, notation, axiom, sorry.
-/
import Derived.Test.YtlnablnnnnkeaaaChecked
import GoSem.Claim
import GoSem.ClaimJoined
import GoSem.ClaimMapViews
import Derived.JoinedTies
import Derived.KernelRfl
namespace Go.Proofs.Ytlnablnnnnkeaaa
/- THE CELL 'sum', in the pinned program and in every row, IS THE sha256 OF THE DUMP (.gsa) THAT YtlnablnnnnkeaaaProg.lean LOADS. Nothing in Lean hashes anything: it is a label: what it is worth is what the hold of that sum in a sandbox is worth. -/
noncomputable def Try.pinned : Pinned := { name := "ytlnablnnnnkeaaa", sum := "67bf74c1797d685f4985b653c3d3ab828bbaf253ca82f8a821a88f394d3b2971", checked := Try.checked }
namespace Rows
def none {H : Type} : Left H := { results := [], args := [] }

/-- 'lockkeeperlaw9.TimerStages': WHATEVER THE INPUT: true; the input reads as it did. -/
def timerStagesSpec : ChangeSpec := { name := "timerStages", fn := fun _ => fun
  | [d1, d2, d3] => { results := [.lit (.bool true)], args := [d1, d2, d3] }
  | _ => none }
def timerStagesRow : OpenClaim := { program := "ytlnablnnnnkeaaa", sum := "67bf74c1797d685f4985b653c3d3ab828bbaf253ca82f8a821a88f394d3b2971", func := "lockkeeper/lockkeeperlaw9.TimerStages", spec := "timerStages", inPlace := ["sync/atomic.AddInt64"], apart := false }
def TimerStagesSaid : Prop := timerStagesRow.holds Try.pinned (OpenSpec.ofChange timerStagesSpec)

/-- ITS FALSE NEIGHBOUR: 'it returns false'. Refute it at one input. -/
def timerStagesWrong : ChangeSpec := { name := "timerStages", fn := fun _ => fun
  | [d1, d2, d3] => { results := [.lit (.bool false)], args := [d1, d2, d3] }
  | _ => none }
def TimerStagesWrongFalsely : Prop := timerStagesRow.holds Try.pinned (OpenSpec.ofChange timerStagesWrong)

/-- 'lockkeeperlaw9.TimerWaits': WHATEVER THE INPUT: true; the input reads as it did. -/
def timerWaitsSpec : ChangeSpec := { name := "timerWaits", fn := fun _ => fun
  | [d1, d2] => { results := [.lit (.bool true)], args := [d1, d2] }
  | _ => none }
def timerWaitsRow : OpenClaim := { program := "ytlnablnnnnkeaaa", sum := "67bf74c1797d685f4985b653c3d3ab828bbaf253ca82f8a821a88f394d3b2971", func := "lockkeeper/lockkeeperlaw9.TimerWaits", spec := "timerWaits", inPlace := ["sync/atomic.AddInt64"], apart := false }
def TimerWaitsSaid : Prop := timerWaitsRow.holds Try.pinned (OpenSpec.ofChange timerWaitsSpec)

/-- ITS FALSE NEIGHBOUR: 'it returns false'. Refute it at one input. -/
def timerWaitsWrong : ChangeSpec := { name := "timerWaits", fn := fun _ => fun
  | [d1, d2] => { results := [.lit (.bool false)], args := [d1, d2] }
  | _ => none }
def TimerWaitsWrongFalsely : Prop := timerWaitsRow.holds Try.pinned (OpenSpec.ofChange timerWaitsWrong)

/-- 'lockkeeperlaw9.TimerSorts': WHATEVER THE INPUT: true; the input reads as it did. -/
def timerSortsSpec : ChangeSpec := { name := "timerSorts", fn := fun _ => fun
  | [d1, d2] => { results := [.lit (.bool true)], args := [d1, d2] }
  | _ => none }
def timerSortsRow : OpenClaim := { program := "ytlnablnnnnkeaaa", sum := "67bf74c1797d685f4985b653c3d3ab828bbaf253ca82f8a821a88f394d3b2971", func := "lockkeeper/lockkeeperlaw9.TimerSorts", spec := "timerSorts", inPlace := ["sync/atomic.AddInt64"], apart := false }
def TimerSortsSaid : Prop := timerSortsRow.holds Try.pinned (OpenSpec.ofChange timerSortsSpec)

/-- ITS FALSE NEIGHBOUR: 'it returns false'. Refute it at one input. -/
def timerSortsWrong : ChangeSpec := { name := "timerSorts", fn := fun _ => fun
  | [d1, d2] => { results := [.lit (.bool false)], args := [d1, d2] }
  | _ => none }
def TimerSortsWrongFalsely : Prop := timerSortsRow.holds Try.pinned (OpenSpec.ofChange timerSortsWrong)

/-- 'lockkeeperlaw9.TimerRooms': WHATEVER THE INPUT: true; the input reads as it did. -/
def timerRoomsSpec : ChangeSpec := { name := "timerRooms", fn := fun _ => fun
  | [d] => { results := [.lit (.bool true)], args := [d] }
  | _ => none }
def timerRoomsRow : OpenClaim := { program := "ytlnablnnnnkeaaa", sum := "67bf74c1797d685f4985b653c3d3ab828bbaf253ca82f8a821a88f394d3b2971", func := "lockkeeper/lockkeeperlaw9.TimerRooms", spec := "timerRooms", inPlace := ["sync/atomic.AddInt64"], apart := false }
def TimerRoomsSaid : Prop := timerRoomsRow.holds Try.pinned (OpenSpec.ofChange timerRoomsSpec)

/-- ITS FALSE NEIGHBOUR: 'it returns false'. Refute it at one input. -/
def timerRoomsWrong : ChangeSpec := { name := "timerRooms", fn := fun _ => fun
  | [d] => { results := [.lit (.bool false)], args := [d] }
  | _ => none }
def TimerRoomsWrongFalsely : Prop := timerRoomsRow.holds Try.pinned (OpenSpec.ofChange timerRoomsWrong)

/-- 'lockkeeperlaw9.TimerPlays': WHATEVER THE INPUT: true; the input reads as it did. -/
def timerPlaysSpec : ChangeSpec := { name := "timerPlays", fn := fun _ => fun
  | [d1, d2] => { results := [.lit (.bool true)], args := [d1, d2] }
  | _ => none }
def timerPlaysRow : OpenClaim := { program := "ytlnablnnnnkeaaa", sum := "67bf74c1797d685f4985b653c3d3ab828bbaf253ca82f8a821a88f394d3b2971", func := "lockkeeper/lockkeeperlaw9.TimerPlays", spec := "timerPlays", inPlace := ["sync/atomic.AddInt64"], apart := false }
def TimerPlaysSaid : Prop := timerPlaysRow.holds Try.pinned (OpenSpec.ofChange timerPlaysSpec)

/-- ITS FALSE NEIGHBOUR: 'it returns false'. Refute it at one input. -/
def timerPlaysWrong : ChangeSpec := { name := "timerPlays", fn := fun _ => fun
  | [d1, d2] => { results := [.lit (.bool false)], args := [d1, d2] }
  | _ => none }
def TimerPlaysWrongFalsely : Prop := timerPlaysRow.holds Try.pinned (OpenSpec.ofChange timerPlaysWrong)

/- THE SECOND FORM. 'bulk': how many values and letters a reading holds, each counted each time it is reached (what is shared counts as often as it is met; a slice's spare places count too). A statement '..UptoSaid' is the law's where the arguments, and the package variables that the reading takes, are together of bulk at most 1048576: NARROWER than '..Said'. Prove '..Said' where nothing that the law and all that it calls make is longer than what came in: it says more and counts as full. Else prove '..UptoSaid'. A law counts once. -/
mutual
def uptoBulk {H : Type} : DataW H → Nat
  | .lit (.string bytes) => bytes.length + 1
  | .lit _ => 1
  | .nil => 1
  | .ptr d => uptoBulk d + 1
  | .slice elems spare => uptoBulkAll elems + uptoBulkAll spare + 1
  | .agg parts => uptoBulkAll parts + 1
  | .iface _ d => uptoBulk d + 1
  | .map entries => uptoBulkEntries entries + 1
  | .held _ => 1
def uptoBulkAll {H : Type} : List (DataW H) → Nat
  | [] => 0
  | d :: r => uptoBulk d + uptoBulkAll r
def uptoBulkEntries {H : Type} : List (Lit × DataW H) → Nat
  | [] => 0
  | x :: r => uptoBulkEntry x + uptoBulkEntries r
def uptoBulkEntry {H : Type} : Lit × DataW H → Nat
  | (.string bytes, d) => bytes.length + uptoBulk d + 1
  | (_, d) => uptoBulk d + 1
 end
def uptoSmall : (H : Type) → List (DataW H) → Bool := fun _ ds => decide (uptoBulkAll ds ≤ 1048576)
def OpenSpec.upto (s : _root_.Go.ChangeSpec) : _root_.Go.OpenSpec := { _root_.Go.OpenSpec.ofChange s with cond := some uptoSmall }

/-- 'lockkeeperlaw9.TimerStages', WHERE WHAT IT READS IS OF BULK AT MOST 1048576: true; the input reads as it did. -/
def timerStagesUptoRow : OpenClaim := { program := "ytlnablnnnnkeaaa", sum := "67bf74c1797d685f4985b653c3d3ab828bbaf253ca82f8a821a88f394d3b2971", func := "lockkeeper/lockkeeperlaw9.TimerStages", spec := "timerStages", inPlace := ["sync/atomic.AddInt64"], apart := false, narrowed := true }
def TimerStagesUptoSaid : Prop := timerStagesUptoRow.holds Try.pinned (OpenSpec.upto timerStagesSpec)

/-- 'lockkeeperlaw9.TimerWaits', WHERE WHAT IT READS IS OF BULK AT MOST 1048576: true; the input reads as it did. -/
def timerWaitsUptoRow : OpenClaim := { program := "ytlnablnnnnkeaaa", sum := "67bf74c1797d685f4985b653c3d3ab828bbaf253ca82f8a821a88f394d3b2971", func := "lockkeeper/lockkeeperlaw9.TimerWaits", spec := "timerWaits", inPlace := ["sync/atomic.AddInt64"], apart := false, narrowed := true }
def TimerWaitsUptoSaid : Prop := timerWaitsUptoRow.holds Try.pinned (OpenSpec.upto timerWaitsSpec)

/-- 'lockkeeperlaw9.TimerSorts', WHERE WHAT IT READS IS OF BULK AT MOST 1048576: true; the input reads as it did. -/
def timerSortsUptoRow : OpenClaim := { program := "ytlnablnnnnkeaaa", sum := "67bf74c1797d685f4985b653c3d3ab828bbaf253ca82f8a821a88f394d3b2971", func := "lockkeeper/lockkeeperlaw9.TimerSorts", spec := "timerSorts", inPlace := ["sync/atomic.AddInt64"], apart := false, narrowed := true }
def TimerSortsUptoSaid : Prop := timerSortsUptoRow.holds Try.pinned (OpenSpec.upto timerSortsSpec)

/-- 'lockkeeperlaw9.TimerRooms', WHERE WHAT IT READS IS OF BULK AT MOST 1048576: true; the input reads as it did. -/
def timerRoomsUptoRow : OpenClaim := { program := "ytlnablnnnnkeaaa", sum := "67bf74c1797d685f4985b653c3d3ab828bbaf253ca82f8a821a88f394d3b2971", func := "lockkeeper/lockkeeperlaw9.TimerRooms", spec := "timerRooms", inPlace := ["sync/atomic.AddInt64"], apart := false, narrowed := true }
def TimerRoomsUptoSaid : Prop := timerRoomsUptoRow.holds Try.pinned (OpenSpec.upto timerRoomsSpec)

/-- 'lockkeeperlaw9.TimerPlays', WHERE WHAT IT READS IS OF BULK AT MOST 1048576: true; the input reads as it did. -/
def timerPlaysUptoRow : OpenClaim := { program := "ytlnablnnnnkeaaa", sum := "67bf74c1797d685f4985b653c3d3ab828bbaf253ca82f8a821a88f394d3b2971", func := "lockkeeper/lockkeeperlaw9.TimerPlays", spec := "timerPlays", inPlace := ["sync/atomic.AddInt64"], apart := false, narrowed := true }
def TimerPlaysUptoSaid : Prop := timerPlaysUptoRow.holds Try.pinned (OpenSpec.upto timerPlaysSpec)

end Rows
end Go.Proofs.Ytlnablnnnnkeaaa
