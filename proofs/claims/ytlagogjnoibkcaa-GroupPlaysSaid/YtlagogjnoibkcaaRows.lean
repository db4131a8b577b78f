/-
  No cell of these rows narrows 'for every input' (looked for: loops, veiled, ifaces, maps, wideKeys, modest, calm, conditions, laid).
  DERIVED. THE GIVEN ROWS OF THIS SEAT. 6 by the template 'for every input the law returns true; each argument reads behind the call as it read before'; 0 by the template 'total and deterministic' (their statements: YtlagogjnoibkcaaTotals.lean).
  GIVEN WITH THE SEED: the statements are not yours to turn. If you find one false, say at which input.
  Laid BY PROGRAM, IN A SANDBOX (cutbox-rows.mjs): the forced cells as the released guide's own fill.sh prints them over the translation eb99ae4fc6218a3d… (all of the seat's roots in one cut). By AI agents, Wed Nov 11 2026. No macro, syntax, notation, axiom, sorry.
-/
import Derived.Test.YtlagogjnoibkcaaChecked
import GoSem.Claim
import GoSem.ClaimJoined
import GoSem.ClaimMapViews
import Derived.JoinedTies
import Derived.KernelRfl
namespace Go.Proofs.Ytlagogjnoibkcaa
/- THE CELL 'sum', in the pinned program and in every row, IS THE sha256 OF THE DUMP (.gsa) THAT YtlagogjnoibkcaaProg.lean LOADS. Nothing in Lean hashes anything: it is a label: what it is worth is what the hold of that sum in a sandbox is worth. -/
noncomputable def Try.pinned : Pinned := { name := "ytlagogjnoibkcaa", sum := "eb99ae4fc6218a3dc51889bc5fba7f0c7291fc0ebb81ddfd5bab7cdd7f43a008", checked := Try.checked }
namespace Rows
def none {H : Type} : Left H := { results := [], args := [] }

/-- 'lockkeeperlaw25.AdmitPlays': WHATEVER THE INPUT: true; the input reads as it did. -/
def admitPlaysSpec : ChangeSpec := { name := "admitPlays", fn := fun _ => fun
  | [d1, d2, d3] => { results := [.lit (.bool true)], args := [d1, d2, d3] }
  | _ => none }
def admitPlaysRow : OpenClaim := { program := "ytlagogjnoibkcaa", sum := "eb99ae4fc6218a3dc51889bc5fba7f0c7291fc0ebb81ddfd5bab7cdd7f43a008", func := "lockkeeper/lockkeeperlaw25.AdmitPlays", spec := "admitPlays", unfollowed := true, recurses := true, apart := false }
def AdmitPlaysSaid : Prop := admitPlaysRow.holds Try.pinned (OpenSpec.ofChange admitPlaysSpec)

/-- ITS FALSE NEIGHBOUR: 'it returns false'. Refute it at one input. -/
def admitPlaysWrong : ChangeSpec := { name := "admitPlays", fn := fun _ => fun
  | [d1, d2, d3] => { results := [.lit (.bool false)], args := [d1, d2, d3] }
  | _ => none }
def AdmitPlaysWrongFalsely : Prop := admitPlaysRow.holds Try.pinned (OpenSpec.ofChange admitPlaysWrong)

/-- 'lockkeeperlaw25.AdmitLimits': WHATEVER THE INPUT: true; the input reads as it did. -/
def admitLimitsSpec : ChangeSpec := { name := "admitLimits", fn := fun _ => fun
  | [d] => { results := [.lit (.bool true)], args := [d] }
  | _ => none }
def admitLimitsRow : OpenClaim := { program := "ytlagogjnoibkcaa", sum := "eb99ae4fc6218a3dc51889bc5fba7f0c7291fc0ebb81ddfd5bab7cdd7f43a008", func := "lockkeeper/lockkeeperlaw25.AdmitLimits", spec := "admitLimits", unfollowed := true, recurses := true, apart := false }
def AdmitLimitsSaid : Prop := admitLimitsRow.holds Try.pinned (OpenSpec.ofChange admitLimitsSpec)

/-- ITS FALSE NEIGHBOUR: 'it returns false'. Refute it at one input. -/
def admitLimitsWrong : ChangeSpec := { name := "admitLimits", fn := fun _ => fun
  | [d] => { results := [.lit (.bool false)], args := [d] }
  | _ => none }
def AdmitLimitsWrongFalsely : Prop := admitLimitsRow.holds Try.pinned (OpenSpec.ofChange admitLimitsWrong)

/-- 'lockkeeperlaw25.AdmitGives': WHATEVER THE INPUT: true; the input reads as it did. -/
def admitGivesSpec : ChangeSpec := { name := "admitGives", fn := fun _ => fun
  | [d] => { results := [.lit (.bool true)], args := [d] }
  | _ => none }
def admitGivesRow : OpenClaim := { program := "ytlagogjnoibkcaa", sum := "eb99ae4fc6218a3dc51889bc5fba7f0c7291fc0ebb81ddfd5bab7cdd7f43a008", func := "lockkeeper/lockkeeperlaw25.AdmitGives", spec := "admitGives", unfollowed := true, recurses := true, apart := false }
def AdmitGivesSaid : Prop := admitGivesRow.holds Try.pinned (OpenSpec.ofChange admitGivesSpec)

/-- ITS FALSE NEIGHBOUR: 'it returns false'. Refute it at one input. -/
def admitGivesWrong : ChangeSpec := { name := "admitGives", fn := fun _ => fun
  | [d] => { results := [.lit (.bool false)], args := [d] }
  | _ => none }
def AdmitGivesWrongFalsely : Prop := admitGivesRow.holds Try.pinned (OpenSpec.ofChange admitGivesWrong)

/-- 'lockkeeperlaw22.GroupTears': WHATEVER THE INPUT: true; the input reads as it did. -/
def groupTearsSpec : ChangeSpec := { name := "groupTears", fn := fun _ => fun
  | [d] => { results := [.lit (.bool true)], args := [d] }
  | _ => none }
def groupTearsRow : OpenClaim := { program := "ytlagogjnoibkcaa", sum := "eb99ae4fc6218a3dc51889bc5fba7f0c7291fc0ebb81ddfd5bab7cdd7f43a008", func := "lockkeeper/lockkeeperlaw22.GroupTears", spec := "groupTears", inPlace := ["slices.overlaps[int]"], unfollowed := true, recurses := true, apart := false }
def GroupTearsSaid : Prop := groupTearsRow.holds Try.pinned (OpenSpec.ofChange groupTearsSpec)

/-- ITS FALSE NEIGHBOUR: 'it returns false'. Refute it at one input. -/
def groupTearsWrong : ChangeSpec := { name := "groupTears", fn := fun _ => fun
  | [d] => { results := [.lit (.bool false)], args := [d] }
  | _ => none }
def GroupTearsWrongFalsely : Prop := groupTearsRow.holds Try.pinned (OpenSpec.ofChange groupTearsWrong)

/-- 'lockkeeperlaw22.GroupPlays': WHATEVER THE INPUT: true; the input reads as it did. -/
def groupPlaysSpec : ChangeSpec := { name := "groupPlays", fn := fun _ => fun
  | [d1, d2] => { results := [.lit (.bool true)], args := [d1, d2] }
  | _ => none }
def groupPlaysRow : OpenClaim := { program := "ytlagogjnoibkcaa", sum := "eb99ae4fc6218a3dc51889bc5fba7f0c7291fc0ebb81ddfd5bab7cdd7f43a008", func := "lockkeeper/lockkeeperlaw22.GroupPlays", spec := "groupPlays", inPlace := ["slices.overlaps[int]"], unfollowed := true, recurses := true, apart := false }
def GroupPlaysSaid : Prop := groupPlaysRow.holds Try.pinned (OpenSpec.ofChange groupPlaysSpec)

/-- ITS FALSE NEIGHBOUR: 'it returns false'. Refute it at one input. -/
def groupPlaysWrong : ChangeSpec := { name := "groupPlays", fn := fun _ => fun
  | [d1, d2] => { results := [.lit (.bool false)], args := [d1, d2] }
  | _ => none }
def GroupPlaysWrongFalsely : Prop := groupPlaysRow.holds Try.pinned (OpenSpec.ofChange groupPlaysWrong)

/-- 'lockkeeperlaw22.GroupOne': WHATEVER THE INPUT: true; the input reads as it did. -/
def groupOneSpec : ChangeSpec := { name := "groupOne", fn := fun _ => fun
  | [d1, d2] => { results := [.lit (.bool true)], args := [d1, d2] }
  | _ => none }
def groupOneRow : OpenClaim := { program := "ytlagogjnoibkcaa", sum := "eb99ae4fc6218a3dc51889bc5fba7f0c7291fc0ebb81ddfd5bab7cdd7f43a008", func := "lockkeeper/lockkeeperlaw22.GroupOne", spec := "groupOne", inPlace := ["slices.overlaps[int]"], unfollowed := true, recurses := true, apart := false }
def GroupOneSaid : Prop := groupOneRow.holds Try.pinned (OpenSpec.ofChange groupOneSpec)

/-- ITS FALSE NEIGHBOUR: 'it returns false'. Refute it at one input. -/
def groupOneWrong : ChangeSpec := { name := "groupOne", fn := fun _ => fun
  | [d1, d2] => { results := [.lit (.bool false)], args := [d1, d2] }
  | _ => none }
def GroupOneWrongFalsely : Prop := groupOneRow.holds Try.pinned (OpenSpec.ofChange groupOneWrong)

/- THE SECOND FORM. 'bulk': how many values and letters a reading holds, each counted each time it is reached (what is shared counts as often as it is met; a slice's spare places count too). A statement '..UptoSaid' is the law's where the arguments, and the package variables that the reading takes, are together of bulk at most 1048576: NARROWER than '..Said'. Prove '..Said' where nothing that the law and all that it calls make is longer than what came in: it says more and counts as full. Else prove '..UptoSaid'. A law counts once. -/
mutual
def uptoBulk {H : Type} : DataW H → Nat
  | .lit (.string bytes) => bytes.length + 1
  | .lit _ => 1
  | .nil => 1
  | .ptr d => uptoBulk d + 1
  | .slice elems spare => uptoBulkAll elems + uptoBulkAll spare + 1
  | .agg parts => uptoBulkAll parts + 1
  | .iface _ d => uptoBulk d + 1
  | .map entries => uptoBulkEntries entries + 1
  | .held _ => 1
def uptoBulkAll {H : Type} : List (DataW H) → Nat
  | [] => 0
  | d :: r => uptoBulk d + uptoBulkAll r
def uptoBulkEntries {H : Type} : List (Lit × DataW H) → Nat
  | [] => 0
  | x :: r => uptoBulkEntry x + uptoBulkEntries r
def uptoBulkEntry {H : Type} : Lit × DataW H → Nat
  | (.string bytes, d) => bytes.length + uptoBulk d + 1
  | (_, d) => uptoBulk d + 1
 end
def uptoSmall : (H : Type) → List (DataW H) → Bool := fun _ ds => decide (uptoBulkAll ds ≤ 1048576)
def OpenSpec.upto (s : _root_.Go.ChangeSpec) : _root_.Go.OpenSpec := { _root_.Go.OpenSpec.ofChange s with cond := some uptoSmall }

/-- 'lockkeeperlaw25.AdmitPlays', WHERE WHAT IT READS IS OF BULK AT MOST 1048576: true; the input reads as it did. -/
def admitPlaysUptoRow : OpenClaim := { program := "ytlagogjnoibkcaa", sum := "eb99ae4fc6218a3dc51889bc5fba7f0c7291fc0ebb81ddfd5bab7cdd7f43a008", func := "lockkeeper/lockkeeperlaw25.AdmitPlays", spec := "admitPlays", unfollowed := true, recurses := true, apart := false, narrowed := true }
def AdmitPlaysUptoSaid : Prop := admitPlaysUptoRow.holds Try.pinned (OpenSpec.upto admitPlaysSpec)

/-- 'lockkeeperlaw25.AdmitLimits', WHERE WHAT IT READS IS OF BULK AT MOST 1048576: true; the input reads as it did. -/
def admitLimitsUptoRow : OpenClaim := { program := "ytlagogjnoibkcaa", sum := "eb99ae4fc6218a3dc51889bc5fba7f0c7291fc0ebb81ddfd5bab7cdd7f43a008", func := "lockkeeper/lockkeeperlaw25.AdmitLimits", spec := "admitLimits", unfollowed := true, recurses := true, apart := false, narrowed := true }
def AdmitLimitsUptoSaid : Prop := admitLimitsUptoRow.holds Try.pinned (OpenSpec.upto admitLimitsSpec)

/-- 'lockkeeperlaw25.AdmitGives', WHERE WHAT IT READS IS OF BULK AT MOST 1048576: true; the input reads as it did. -/
def admitGivesUptoRow : OpenClaim := { program := "ytlagogjnoibkcaa", sum := "eb99ae4fc6218a3dc51889bc5fba7f0c7291fc0ebb81ddfd5bab7cdd7f43a008", func := "lockkeeper/lockkeeperlaw25.AdmitGives", spec := "admitGives", unfollowed := true, recurses := true, apart := false, narrowed := true }
def AdmitGivesUptoSaid : Prop := admitGivesUptoRow.holds Try.pinned (OpenSpec.upto admitGivesSpec)

/-- 'lockkeeperlaw22.GroupTears', WHERE WHAT IT READS IS OF BULK AT MOST 1048576: true; the input reads as it did. -/
def groupTearsUptoRow : OpenClaim := { program := "ytlagogjnoibkcaa", sum := "eb99ae4fc6218a3dc51889bc5fba7f0c7291fc0ebb81ddfd5bab7cdd7f43a008", func := "lockkeeper/lockkeeperlaw22.GroupTears", spec := "groupTears", inPlace := ["slices.overlaps[int]"], unfollowed := true, recurses := true, apart := false, narrowed := true }
def GroupTearsUptoSaid : Prop := groupTearsUptoRow.holds Try.pinned (OpenSpec.upto groupTearsSpec)

/-- 'lockkeeperlaw22.GroupPlays', WHERE WHAT IT READS IS OF BULK AT MOST 1048576: true; the input reads as it did. -/
def groupPlaysUptoRow : OpenClaim := { program := "ytlagogjnoibkcaa", sum := "eb99ae4fc6218a3dc51889bc5fba7f0c7291fc0ebb81ddfd5bab7cdd7f43a008", func := "lockkeeper/lockkeeperlaw22.GroupPlays", spec := "groupPlays", inPlace := ["slices.overlaps[int]"], unfollowed := true, recurses := true, apart := false, narrowed := true }
def GroupPlaysUptoSaid : Prop := groupPlaysUptoRow.holds Try.pinned (OpenSpec.upto groupPlaysSpec)

/-- 'lockkeeperlaw22.GroupOne', WHERE WHAT IT READS IS OF BULK AT MOST 1048576: true; the input reads as it did. -/
def groupOneUptoRow : OpenClaim := { program := "ytlagogjnoibkcaa", sum := "eb99ae4fc6218a3dc51889bc5fba7f0c7291fc0ebb81ddfd5bab7cdd7f43a008", func := "lockkeeper/lockkeeperlaw22.GroupOne", spec := "groupOne", inPlace := ["slices.overlaps[int]"], unfollowed := true, recurses := true, apart := false, narrowed := true }
def GroupOneUptoSaid : Prop := groupOneUptoRow.holds Try.pinned (OpenSpec.upto groupOneSpec)

end Rows
end Go.Proofs.Ytlagogjnoibkcaa
