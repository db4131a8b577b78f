/-
  No cell of these rows narrows 'for every input' (looked for: loops, veiled, ifaces, maps, wideKeys, modest, calm, conditions, laid).
  DERIVED. THE GIVEN ROWS OF THIS SEAT. 8 by the template 'for every input the law returns true; each argument reads behind the call as it read before'; 0 by the template 'total and deterministic' (their statements: YtmmhpjodnceipaaTotals.lean).
  GIVEN WITH THE SEED: the statements are not yours to turn. If you find one false, say at which input.
  Laid BY PROGRAM, IN A SANDBOX (cutbox-rows.mjs): the forced cells as the released guide's own fill.sh prints them over the translation 29f3b36e6be76592… (all of the seat's roots in one cut). By AI agents, Wed Nov 11 2026. No macro, syntax, notation, axiom, sorry.
-/
import Derived.Test.YtmmhpjodnceipaaChecked
import GoSem.Claim
import GoSem.ClaimJoined
import GoSem.ClaimMapViews
import Derived.JoinedTies
import Derived.KernelRfl
namespace Go.Proofs.Ytmmhpjodnceipaa
/- THE CELL 'sum', in the pinned program and in every row, IS THE sha256 OF THE DUMP (.gsa) THAT YtmmhpjodnceipaaProg.lean LOADS. Nothing in Lean hashes anything: it is a label: what it is worth is what the hold of that sum in a sandbox is worth. -/
noncomputable def Try.pinned : Pinned := { name := "ytmmhpjodnceipaa", sum := "29f3b36e6be765924d20b73e598459bb12a2dd062c4de163e5d70fc9c309c330", checked := Try.checked }
namespace Rows
def none {H : Type} : Left H := { results := [], args := [] }

/-- 'lockkeeperlaw12.HostsSix': WHATEVER THE INPUT: true; the input reads as it did. -/
def hostsSixSpec : ChangeSpec := { name := "hostsSix", fn := fun _ => fun
  | [d1, d2] => { results := [.lit (.bool true)], args := [d1, d2] }
  | _ => none }
def hostsSixRow : OpenClaim := { program := "ytmmhpjodnceipaa", sum := "29f3b36e6be765924d20b73e598459bb12a2dd062c4de163e5d70fc9c309c330", func := "lockkeeper/lockkeeperlaw12.HostsSix", spec := "hostsSix", unfollowed := true, recurses := true, apart := false }
def HostsSixSaid : Prop := hostsSixRow.holds Try.pinned (OpenSpec.ofChange hostsSixSpec)

/-- ITS FALSE NEIGHBOUR: 'it returns false'. Refute it at one input. -/
def hostsSixWrong : ChangeSpec := { name := "hostsSix", fn := fun _ => fun
  | [d1, d2] => { results := [.lit (.bool false)], args := [d1, d2] }
  | _ => none }
def HostsSixWrongFalsely : Prop := hostsSixRow.holds Try.pinned (OpenSpec.ofChange hostsSixWrong)

/-- 'lockkeeperlaw21.SignalUnder': WHATEVER THE INPUT: true; the input reads as it did. -/
def signalUnderSpec : ChangeSpec := { name := "signalUnder", fn := fun _ => fun
  | [d1, d2] => { results := [.lit (.bool true)], args := [d1, d2] }
  | _ => none }
def signalUnderRow : OpenClaim := { program := "ytmmhpjodnceipaa", sum := "29f3b36e6be765924d20b73e598459bb12a2dd062c4de163e5d70fc9c309c330", func := "lockkeeper/lockkeeperlaw21.SignalUnder", spec := "signalUnder", unfollowed := true, recurses := true, apart := false }
def SignalUnderSaid : Prop := signalUnderRow.holds Try.pinned (OpenSpec.ofChange signalUnderSpec)

/-- ITS FALSE NEIGHBOUR: 'it returns false'. Refute it at one input. -/
def signalUnderWrong : ChangeSpec := { name := "signalUnder", fn := fun _ => fun
  | [d1, d2] => { results := [.lit (.bool false)], args := [d1, d2] }
  | _ => none }
def SignalUnderWrongFalsely : Prop := signalUnderRow.holds Try.pinned (OpenSpec.ofChange signalUnderWrong)

/-- 'lockkeeperlaw21.SignalRooms': WHATEVER THE INPUT: true; the input reads as it did. -/
def signalRoomsSpec : ChangeSpec := { name := "signalRooms", fn := fun _ => fun
  | [d] => { results := [.lit (.bool true)], args := [d] }
  | _ => none }
def signalRoomsRow : OpenClaim := { program := "ytmmhpjodnceipaa", sum := "29f3b36e6be765924d20b73e598459bb12a2dd062c4de163e5d70fc9c309c330", func := "lockkeeper/lockkeeperlaw21.SignalRooms", spec := "signalRooms", unfollowed := true, recurses := true, apart := false }
def SignalRoomsSaid : Prop := signalRoomsRow.holds Try.pinned (OpenSpec.ofChange signalRoomsSpec)

/-- ITS FALSE NEIGHBOUR: 'it returns false'. Refute it at one input. -/
def signalRoomsWrong : ChangeSpec := { name := "signalRooms", fn := fun _ => fun
  | [d] => { results := [.lit (.bool false)], args := [d] }
  | _ => none }
def SignalRoomsWrongFalsely : Prop := signalRoomsRow.holds Try.pinned (OpenSpec.ofChange signalRoomsWrong)

/-- 'lockkeeperlaw21.SignalPlays': WHATEVER THE INPUT: true; the input reads as it did. -/
def signalPlaysSpec : ChangeSpec := { name := "signalPlays", fn := fun _ => fun
  | [d1, d2] => { results := [.lit (.bool true)], args := [d1, d2] }
  | _ => none }
def signalPlaysRow : OpenClaim := { program := "ytmmhpjodnceipaa", sum := "29f3b36e6be765924d20b73e598459bb12a2dd062c4de163e5d70fc9c309c330", func := "lockkeeper/lockkeeperlaw21.SignalPlays", spec := "signalPlays", unfollowed := true, recurses := true, apart := false }
def SignalPlaysSaid : Prop := signalPlaysRow.holds Try.pinned (OpenSpec.ofChange signalPlaysSpec)

/-- ITS FALSE NEIGHBOUR: 'it returns false'. Refute it at one input. -/
def signalPlaysWrong : ChangeSpec := { name := "signalPlays", fn := fun _ => fun
  | [d1, d2] => { results := [.lit (.bool false)], args := [d1, d2] }
  | _ => none }
def SignalPlaysWrongFalsely : Prop := signalPlaysRow.holds Try.pinned (OpenSpec.ofChange signalPlaysWrong)

/-- 'lockkeeperlaw21.SignalAborts': WHATEVER THE INPUT: true; the input reads as it did. -/
def signalAbortsSpec : ChangeSpec := { name := "signalAborts", fn := fun _ => fun
  | [d1, d2] => { results := [.lit (.bool true)], args := [d1, d2] }
  | _ => none }
def signalAbortsRow : OpenClaim := { program := "ytmmhpjodnceipaa", sum := "29f3b36e6be765924d20b73e598459bb12a2dd062c4de163e5d70fc9c309c330", func := "lockkeeper/lockkeeperlaw21.SignalAborts", spec := "signalAborts", unfollowed := true, recurses := true, apart := false }
def SignalAbortsSaid : Prop := signalAbortsRow.holds Try.pinned (OpenSpec.ofChange signalAbortsSpec)

/-- ITS FALSE NEIGHBOUR: 'it returns false'. Refute it at one input. -/
def signalAbortsWrong : ChangeSpec := { name := "signalAborts", fn := fun _ => fun
  | [d1, d2] => { results := [.lit (.bool false)], args := [d1, d2] }
  | _ => none }
def SignalAbortsWrongFalsely : Prop := signalAbortsRow.holds Try.pinned (OpenSpec.ofChange signalAbortsWrong)

/-- 'lockkeeperlaw12.HostsPlays': WHATEVER THE INPUT: true; the input reads as it did. -/
def hostsPlaysSpec : ChangeSpec := { name := "hostsPlays", fn := fun _ => fun
  | [d1, d2, d3] => { results := [.lit (.bool true)], args := [d1, d2, d3] }
  | _ => none }
def hostsPlaysRow : OpenClaim := { program := "ytmmhpjodnceipaa", sum := "29f3b36e6be765924d20b73e598459bb12a2dd062c4de163e5d70fc9c309c330", func := "lockkeeper/lockkeeperlaw12.HostsPlays", spec := "hostsPlays", unfollowed := true, recurses := true, apart := false }
def HostsPlaysSaid : Prop := hostsPlaysRow.holds Try.pinned (OpenSpec.ofChange hostsPlaysSpec)

/-- ITS FALSE NEIGHBOUR: 'it returns false'. Refute it at one input. -/
def hostsPlaysWrong : ChangeSpec := { name := "hostsPlays", fn := fun _ => fun
  | [d1, d2, d3] => { results := [.lit (.bool false)], args := [d1, d2, d3] }
  | _ => none }
def HostsPlaysWrongFalsely : Prop := hostsPlaysRow.holds Try.pinned (OpenSpec.ofChange hostsPlaysWrong)

/-- 'lockkeeperlaw12.HostsEldest': WHATEVER THE INPUT: true; the input reads as it did. -/
def hostsEldestSpec : ChangeSpec := { name := "hostsEldest", fn := fun _ => fun
  | [d1, d2] => { results := [.lit (.bool true)], args := [d1, d2] }
  | _ => none }
def hostsEldestRow : OpenClaim := { program := "ytmmhpjodnceipaa", sum := "29f3b36e6be765924d20b73e598459bb12a2dd062c4de163e5d70fc9c309c330", func := "lockkeeper/lockkeeperlaw12.HostsEldest", spec := "hostsEldest", unfollowed := true, recurses := true, apart := false }
def HostsEldestSaid : Prop := hostsEldestRow.holds Try.pinned (OpenSpec.ofChange hostsEldestSpec)

/-- ITS FALSE NEIGHBOUR: 'it returns false'. Refute it at one input. -/
def hostsEldestWrong : ChangeSpec := { name := "hostsEldest", fn := fun _ => fun
  | [d1, d2] => { results := [.lit (.bool false)], args := [d1, d2] }
  | _ => none }
def HostsEldestWrongFalsely : Prop := hostsEldestRow.holds Try.pinned (OpenSpec.ofChange hostsEldestWrong)

/-- 'lockkeeperlaw12.HostsOrder': WHATEVER THE INPUT: true; the input reads as it did. -/
def hostsOrderSpec : ChangeSpec := { name := "hostsOrder", fn := fun _ => fun
  | [d] => { results := [.lit (.bool true)], args := [d] }
  | _ => none }
def hostsOrderRow : OpenClaim := { program := "ytmmhpjodnceipaa", sum := "29f3b36e6be765924d20b73e598459bb12a2dd062c4de163e5d70fc9c309c330", func := "lockkeeper/lockkeeperlaw12.HostsOrder", spec := "hostsOrder", unfollowed := true, recurses := true, apart := false }
def HostsOrderSaid : Prop := hostsOrderRow.holds Try.pinned (OpenSpec.ofChange hostsOrderSpec)

/-- ITS FALSE NEIGHBOUR: 'it returns false'. Refute it at one input. -/
def hostsOrderWrong : ChangeSpec := { name := "hostsOrder", fn := fun _ => fun
  | [d] => { results := [.lit (.bool false)], args := [d] }
  | _ => none }
def HostsOrderWrongFalsely : Prop := hostsOrderRow.holds Try.pinned (OpenSpec.ofChange hostsOrderWrong)

/- THE SECOND FORM. 'bulk': how many values and letters a reading holds, each counted each time it is reached (what is shared counts as often as it is met; a slice's spare places count too). A statement '..UptoSaid' is the law's where the arguments, and the package variables that the reading takes, are together of bulk at most 1048576: NARROWER than '..Said'. Prove '..Said' where nothing that the law and all that it calls make is longer than what came in: it says more and counts as full. Else prove '..UptoSaid'. A law counts once. -/
mutual
def uptoBulk {H : Type} : DataW H → Nat
  | .lit (.string bytes) => bytes.length + 1
  | .lit _ => 1
  | .nil => 1
  | .ptr d => uptoBulk d + 1
  | .slice elems spare => uptoBulkAll elems + uptoBulkAll spare + 1
  | .agg parts => uptoBulkAll parts + 1
  | .iface _ d => uptoBulk d + 1
  | .map entries => uptoBulkEntries entries + 1
  | .held _ => 1
def uptoBulkAll {H : Type} : List (DataW H) → Nat
  | [] => 0
  | d :: r => uptoBulk d + uptoBulkAll r
def uptoBulkEntries {H : Type} : List (Lit × DataW H) → Nat
  | [] => 0
  | x :: r => uptoBulkEntry x + uptoBulkEntries r
def uptoBulkEntry {H : Type} : Lit × DataW H → Nat
  | (.string bytes, d) => bytes.length + uptoBulk d + 1
  | (_, d) => uptoBulk d + 1
 end
def uptoSmall : (H : Type) → List (DataW H) → Bool := fun _ ds => decide (uptoBulkAll ds ≤ 1048576)
def OpenSpec.upto (s : _root_.Go.ChangeSpec) : _root_.Go.OpenSpec := { _root_.Go.OpenSpec.ofChange s with cond := some uptoSmall }

/-- 'lockkeeperlaw12.HostsSix', WHERE WHAT IT READS IS OF BULK AT MOST 1048576: true; the input reads as it did. -/
def hostsSixUptoRow : OpenClaim := { program := "ytmmhpjodnceipaa", sum := "29f3b36e6be765924d20b73e598459bb12a2dd062c4de163e5d70fc9c309c330", func := "lockkeeper/lockkeeperlaw12.HostsSix", spec := "hostsSix", unfollowed := true, recurses := true, apart := false, narrowed := true }
def HostsSixUptoSaid : Prop := hostsSixUptoRow.holds Try.pinned (OpenSpec.upto hostsSixSpec)

/-- 'lockkeeperlaw21.SignalUnder', WHERE WHAT IT READS IS OF BULK AT MOST 1048576: true; the input reads as it did. -/
def signalUnderUptoRow : OpenClaim := { program := "ytmmhpjodnceipaa", sum := "29f3b36e6be765924d20b73e598459bb12a2dd062c4de163e5d70fc9c309c330", func := "lockkeeper/lockkeeperlaw21.SignalUnder", spec := "signalUnder", unfollowed := true, recurses := true, apart := false, narrowed := true }
def SignalUnderUptoSaid : Prop := signalUnderUptoRow.holds Try.pinned (OpenSpec.upto signalUnderSpec)

/-- 'lockkeeperlaw21.SignalRooms', WHERE WHAT IT READS IS OF BULK AT MOST 1048576: true; the input reads as it did. -/
def signalRoomsUptoRow : OpenClaim := { program := "ytmmhpjodnceipaa", sum := "29f3b36e6be765924d20b73e598459bb12a2dd062c4de163e5d70fc9c309c330", func := "lockkeeper/lockkeeperlaw21.SignalRooms", spec := "signalRooms", unfollowed := true, recurses := true, apart := false, narrowed := true }
def SignalRoomsUptoSaid : Prop := signalRoomsUptoRow.holds Try.pinned (OpenSpec.upto signalRoomsSpec)

/-- 'lockkeeperlaw21.SignalPlays', WHERE WHAT IT READS IS OF BULK AT MOST 1048576: true; the input reads as it did. -/
def signalPlaysUptoRow : OpenClaim := { program := "ytmmhpjodnceipaa", sum := "29f3b36e6be765924d20b73e598459bb12a2dd062c4de163e5d70fc9c309c330", func := "lockkeeper/lockkeeperlaw21.SignalPlays", spec := "signalPlays", unfollowed := true, recurses := true, apart := false, narrowed := true }
def SignalPlaysUptoSaid : Prop := signalPlaysUptoRow.holds Try.pinned (OpenSpec.upto signalPlaysSpec)

/-- 'lockkeeperlaw21.SignalAborts', WHERE WHAT IT READS IS OF BULK AT MOST 1048576: true; the input reads as it did. -/
def signalAbortsUptoRow : OpenClaim := { program := "ytmmhpjodnceipaa", sum := "29f3b36e6be765924d20b73e598459bb12a2dd062c4de163e5d70fc9c309c330", func := "lockkeeper/lockkeeperlaw21.SignalAborts", spec := "signalAborts", unfollowed := true, recurses := true, apart := false, narrowed := true }
def SignalAbortsUptoSaid : Prop := signalAbortsUptoRow.holds Try.pinned (OpenSpec.upto signalAbortsSpec)

/-- 'lockkeeperlaw12.HostsPlays', WHERE WHAT IT READS IS OF BULK AT MOST 1048576: true; the input reads as it did. -/
def hostsPlaysUptoRow : OpenClaim := { program := "ytmmhpjodnceipaa", sum := "29f3b36e6be765924d20b73e598459bb12a2dd062c4de163e5d70fc9c309c330", func := "lockkeeper/lockkeeperlaw12.HostsPlays", spec := "hostsPlays", unfollowed := true, recurses := true, apart := false, narrowed := true }
def HostsPlaysUptoSaid : Prop := hostsPlaysUptoRow.holds Try.pinned (OpenSpec.upto hostsPlaysSpec)

/-- 'lockkeeperlaw12.HostsEldest', WHERE WHAT IT READS IS OF BULK AT MOST 1048576: true; the input reads as it did. -/
def hostsEldestUptoRow : OpenClaim := { program := "ytmmhpjodnceipaa", sum := "29f3b36e6be765924d20b73e598459bb12a2dd062c4de163e5d70fc9c309c330", func := "lockkeeper/lockkeeperlaw12.HostsEldest", spec := "hostsEldest", unfollowed := true, recurses := true, apart := false, narrowed := true }
def HostsEldestUptoSaid : Prop := hostsEldestUptoRow.holds Try.pinned (OpenSpec.upto hostsEldestSpec)

/-- 'lockkeeperlaw12.HostsOrder', WHERE WHAT IT READS IS OF BULK AT MOST 1048576: true; the input reads as it did. -/
def hostsOrderUptoRow : OpenClaim := { program := "ytmmhpjodnceipaa", sum := "29f3b36e6be765924d20b73e598459bb12a2dd062c4de163e5d70fc9c309c330", func := "lockkeeper/lockkeeperlaw12.HostsOrder", spec := "hostsOrder", unfollowed := true, recurses := true, apart := false, narrowed := true }
def HostsOrderUptoSaid : Prop := hostsOrderUptoRow.holds Try.pinned (OpenSpec.upto hostsOrderSpec)

end Rows
end Go.Proofs.Ytmmhpjodnceipaa
