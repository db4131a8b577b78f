/-
  No cell of these rows narrows 'for every input' (looked for: loops, veiled, ifaces, maps, wideKeys, modest, calm, conditions, laid).
  DERIVED. THE GIVEN ROWS OF THIS SEAT. 9 by the template 'for every input the law returns true; each argument reads behind the call as it read before'; 0 by the template 'total and deterministic' (their statements: YtkbjpackijdnkaaTotals.lean).
  GIVEN WITH THE SEED: the statements are not yours to turn. If you find one false, say at which input.
  Laid BY PROGRAM, IN A SANDBOX (cutbox-rows.mjs): the forced cells as the released guide's own fill.sh prints them over the translation d44b41ee14b8880f… (all of the seat's roots in one cut). By AI agents, Wed Nov 11 2026. No macro, syntax, notation, axiom, sorry.
-/
import Derived.Test.YtkbjpackijdnkaaChecked
import GoSem.Claim
import GoSem.ClaimJoined
import GoSem.ClaimMapViews
import Derived.JoinedTies
import Derived.KernelRfl
namespace Go.Proofs.Ytkbjpackijdnkaa
/- THE CELL 'sum', in the pinned program and in every row, IS THE sha256 OF THE DUMP (.gsa) THAT YtkbjpackijdnkaaProg.lean LOADS. Nothing in Lean hashes anything: it is a label: what it is worth is what the hold of that sum in a sandbox is worth. -/
noncomputable def Try.pinned : Pinned := { name := "ytkbjpackijdnkaa", sum := "d44b41ee14b8880f423bb399d2039bd6267c4275175cf3c95e1886a551901fc1", checked := Try.checked }
namespace Rows
def none {H : Type} : Left H := { results := [], args := [] }

/-- 'lockkeeperlaw16.CacheRooms': WHATEVER THE INPUT: true; the input reads as it did. -/
def cacheRoomsSpec : ChangeSpec := { name := "cacheRooms", fn := fun _ => fun
  | [d1, d2] => { results := [.lit (.bool true)], args := [d1, d2] }
  | _ => none }
def cacheRoomsRow : OpenClaim := { program := "ytkbjpackijdnkaa", sum := "d44b41ee14b8880f423bb399d2039bd6267c4275175cf3c95e1886a551901fc1", func := "lockkeeper/lockkeeperlaw16.CacheRooms", spec := "cacheRooms", unfollowed := true, recurses := true, apart := false }
def CacheRoomsSaid : Prop := cacheRoomsRow.holds Try.pinned (OpenSpec.ofChange cacheRoomsSpec)

/-- ITS FALSE NEIGHBOUR: 'it returns false'. Refute it at one input. -/
def cacheRoomsWrong : ChangeSpec := { name := "cacheRooms", fn := fun _ => fun
  | [d1, d2] => { results := [.lit (.bool false)], args := [d1, d2] }
  | _ => none }
def CacheRoomsWrongFalsely : Prop := cacheRoomsRow.holds Try.pinned (OpenSpec.ofChange cacheRoomsWrong)

/-- 'lockkeeperlaw16.CacheAnew': WHATEVER THE INPUT: true; the input reads as it did. -/
def cacheAnewSpec : ChangeSpec := { name := "cacheAnew", fn := fun _ => fun
  | [d1, d2, d3, d4] => { results := [.lit (.bool true)], args := [d1, d2, d3, d4] }
  | _ => none }
def cacheAnewRow : OpenClaim := { program := "ytkbjpackijdnkaa", sum := "d44b41ee14b8880f423bb399d2039bd6267c4275175cf3c95e1886a551901fc1", func := "lockkeeper/lockkeeperlaw16.CacheAnew", spec := "cacheAnew", unfollowed := true, recurses := true, apart := false }
def CacheAnewSaid : Prop := cacheAnewRow.holds Try.pinned (OpenSpec.ofChange cacheAnewSpec)

/-- ITS FALSE NEIGHBOUR: 'it returns false'. Refute it at one input. -/
def cacheAnewWrong : ChangeSpec := { name := "cacheAnew", fn := fun _ => fun
  | [d1, d2, d3, d4] => { results := [.lit (.bool false)], args := [d1, d2, d3, d4] }
  | _ => none }
def CacheAnewWrongFalsely : Prop := cacheAnewRow.holds Try.pinned (OpenSpec.ofChange cacheAnewWrong)

/-- 'lockkeeperlaw16.CacheGood': WHATEVER THE INPUT: true; the input reads as it did. -/
def cacheGoodSpec : ChangeSpec := { name := "cacheGood", fn := fun _ => fun
  | [d1, d2, d3, d4, d5, d6] => { results := [.lit (.bool true)], args := [d1, d2, d3, d4, d5, d6] }
  | _ => none }
def cacheGoodRow : OpenClaim := { program := "ytkbjpackijdnkaa", sum := "d44b41ee14b8880f423bb399d2039bd6267c4275175cf3c95e1886a551901fc1", func := "lockkeeper/lockkeeperlaw16.CacheGood", spec := "cacheGood", unfollowed := true, recurses := true, apart := false }
def CacheGoodSaid : Prop := cacheGoodRow.holds Try.pinned (OpenSpec.ofChange cacheGoodSpec)

/-- ITS FALSE NEIGHBOUR: 'it returns false'. Refute it at one input. -/
def cacheGoodWrong : ChangeSpec := { name := "cacheGood", fn := fun _ => fun
  | [d1, d2, d3, d4, d5, d6] => { results := [.lit (.bool false)], args := [d1, d2, d3, d4, d5, d6] }
  | _ => none }
def CacheGoodWrongFalsely : Prop := cacheGoodRow.holds Try.pinned (OpenSpec.ofChange cacheGoodWrong)

/-- 'lockkeeperlaw18.ShareWants': WHATEVER THE INPUT: true; the input reads as it did. -/
def shareWantsSpec : ChangeSpec := { name := "shareWants", fn := fun _ => fun
  | [d1, d2] => { results := [.lit (.bool true)], args := [d1, d2] }
  | _ => none }
def shareWantsRow : OpenClaim := { program := "ytkbjpackijdnkaa", sum := "d44b41ee14b8880f423bb399d2039bd6267c4275175cf3c95e1886a551901fc1", func := "lockkeeper/lockkeeperlaw18.ShareWants", spec := "shareWants", inPlace := ["sync/atomic.AddInt64"], unfollowed := true, recurses := true, apart := false }
def ShareWantsSaid : Prop := shareWantsRow.holds Try.pinned (OpenSpec.ofChange shareWantsSpec)

/-- ITS FALSE NEIGHBOUR: 'it returns false'. Refute it at one input. -/
def shareWantsWrong : ChangeSpec := { name := "shareWants", fn := fun _ => fun
  | [d1, d2] => { results := [.lit (.bool false)], args := [d1, d2] }
  | _ => none }
def ShareWantsWrongFalsely : Prop := shareWantsRow.holds Try.pinned (OpenSpec.ofChange shareWantsWrong)

/-- 'lockkeeperlaw18.ShareLast': WHATEVER THE INPUT: true; the input reads as it did. -/
def shareLastSpec : ChangeSpec := { name := "shareLast", fn := fun _ => fun
  | [d1, d2] => { results := [.lit (.bool true)], args := [d1, d2] }
  | _ => none }
def shareLastRow : OpenClaim := { program := "ytkbjpackijdnkaa", sum := "d44b41ee14b8880f423bb399d2039bd6267c4275175cf3c95e1886a551901fc1", func := "lockkeeper/lockkeeperlaw18.ShareLast", spec := "shareLast", inPlace := ["sync/atomic.AddInt64"], unfollowed := true, recurses := true, apart := false }
def ShareLastSaid : Prop := shareLastRow.holds Try.pinned (OpenSpec.ofChange shareLastSpec)

/-- ITS FALSE NEIGHBOUR: 'it returns false'. Refute it at one input. -/
def shareLastWrong : ChangeSpec := { name := "shareLast", fn := fun _ => fun
  | [d1, d2] => { results := [.lit (.bool false)], args := [d1, d2] }
  | _ => none }
def ShareLastWrongFalsely : Prop := shareLastRow.holds Try.pinned (OpenSpec.ofChange shareLastWrong)

/-- 'lockkeeperlaw16.CachePlays': WHATEVER THE INPUT: true; the input reads as it did. -/
def cachePlaysSpec : ChangeSpec := { name := "cachePlays", fn := fun _ => fun
  | [d1, d2, d3, d4, d5, d6] => { results := [.lit (.bool true)], args := [d1, d2, d3, d4, d5, d6] }
  | _ => none }
def cachePlaysRow : OpenClaim := { program := "ytkbjpackijdnkaa", sum := "d44b41ee14b8880f423bb399d2039bd6267c4275175cf3c95e1886a551901fc1", func := "lockkeeper/lockkeeperlaw16.CachePlays", spec := "cachePlays", unfollowed := true, recurses := true, apart := false }
def CachePlaysSaid : Prop := cachePlaysRow.holds Try.pinned (OpenSpec.ofChange cachePlaysSpec)

/-- ITS FALSE NEIGHBOUR: 'it returns false'. Refute it at one input. -/
def cachePlaysWrong : ChangeSpec := { name := "cachePlays", fn := fun _ => fun
  | [d1, d2, d3, d4, d5, d6] => { results := [.lit (.bool false)], args := [d1, d2, d3, d4, d5, d6] }
  | _ => none }
def CachePlaysWrongFalsely : Prop := cachePlaysRow.holds Try.pinned (OpenSpec.ofChange cachePlaysWrong)

/-- 'lockkeeperlaw16.CacheApart': WHATEVER THE INPUT: true; the input reads as it did. -/
def cacheApartSpec : ChangeSpec := { name := "cacheApart", fn := fun _ => fun
  | [d1, d2, d3, d4, d5] => { results := [.lit (.bool true)], args := [d1, d2, d3, d4, d5] }
  | _ => none }
def cacheApartRow : OpenClaim := { program := "ytkbjpackijdnkaa", sum := "d44b41ee14b8880f423bb399d2039bd6267c4275175cf3c95e1886a551901fc1", func := "lockkeeper/lockkeeperlaw16.CacheApart", spec := "cacheApart", unfollowed := true, recurses := true, apart := false }
def CacheApartSaid : Prop := cacheApartRow.holds Try.pinned (OpenSpec.ofChange cacheApartSpec)

/-- ITS FALSE NEIGHBOUR: 'it returns false'. Refute it at one input. -/
def cacheApartWrong : ChangeSpec := { name := "cacheApart", fn := fun _ => fun
  | [d1, d2, d3, d4, d5] => { results := [.lit (.bool false)], args := [d1, d2, d3, d4, d5] }
  | _ => none }
def CacheApartWrongFalsely : Prop := cacheApartRow.holds Try.pinned (OpenSpec.ofChange cacheApartWrong)

/-- 'lockkeeperlaw18.SharePlays': WHATEVER THE INPUT: true; the input reads as it did. -/
def sharePlaysSpec : ChangeSpec := { name := "sharePlays", fn := fun _ => fun
  | [d1, d2, d3] => { results := [.lit (.bool true)], args := [d1, d2, d3] }
  | _ => none }
def sharePlaysRow : OpenClaim := { program := "ytkbjpackijdnkaa", sum := "d44b41ee14b8880f423bb399d2039bd6267c4275175cf3c95e1886a551901fc1", func := "lockkeeper/lockkeeperlaw18.SharePlays", spec := "sharePlays", inPlace := ["sync/atomic.AddInt64"], unfollowed := true, recurses := true, apart := false }
def SharePlaysSaid : Prop := sharePlaysRow.holds Try.pinned (OpenSpec.ofChange sharePlaysSpec)

/-- ITS FALSE NEIGHBOUR: 'it returns false'. Refute it at one input. -/
def sharePlaysWrong : ChangeSpec := { name := "sharePlays", fn := fun _ => fun
  | [d1, d2, d3] => { results := [.lit (.bool false)], args := [d1, d2, d3] }
  | _ => none }
def SharePlaysWrongFalsely : Prop := sharePlaysRow.holds Try.pinned (OpenSpec.ofChange sharePlaysWrong)

/-- 'lockkeeperlaw18.ShareHolds': WHATEVER THE INPUT: true; the input reads as it did. -/
def shareHoldsSpec : ChangeSpec := { name := "shareHolds", fn := fun _ => fun
  | [d] => { results := [.lit (.bool true)], args := [d] }
  | _ => none }
def shareHoldsRow : OpenClaim := { program := "ytkbjpackijdnkaa", sum := "d44b41ee14b8880f423bb399d2039bd6267c4275175cf3c95e1886a551901fc1", func := "lockkeeper/lockkeeperlaw18.ShareHolds", spec := "shareHolds", inPlace := ["sync/atomic.AddInt64"], unfollowed := true, recurses := true, apart := false }
def ShareHoldsSaid : Prop := shareHoldsRow.holds Try.pinned (OpenSpec.ofChange shareHoldsSpec)

/-- ITS FALSE NEIGHBOUR: 'it returns false'. Refute it at one input. -/
def shareHoldsWrong : ChangeSpec := { name := "shareHolds", fn := fun _ => fun
  | [d] => { results := [.lit (.bool false)], args := [d] }
  | _ => none }
def ShareHoldsWrongFalsely : Prop := shareHoldsRow.holds Try.pinned (OpenSpec.ofChange shareHoldsWrong)

/- THE SECOND FORM. 'bulk': how many values and letters a reading holds, each counted each time it is reached (what is shared counts as often as it is met; a slice's spare places count too). A statement '..UptoSaid' is the law's where the arguments, and the package variables that the reading takes, are together of bulk at most 1048576: NARROWER than '..Said'. Prove '..Said' where nothing that the law and all that it calls make is longer than what came in: it says more and counts as full. Else prove '..UptoSaid'. A law counts once. -/
mutual
def uptoBulk {H : Type} : DataW H → Nat
  | .lit (.string bytes) => bytes.length + 1
  | .lit _ => 1
  | .nil => 1
  | .ptr d => uptoBulk d + 1
  | .slice elems spare => uptoBulkAll elems + uptoBulkAll spare + 1
  | .agg parts => uptoBulkAll parts + 1
  | .iface _ d => uptoBulk d + 1
  | .map entries => uptoBulkEntries entries + 1
  | .held _ => 1
def uptoBulkAll {H : Type} : List (DataW H) → Nat
  | [] => 0
  | d :: r => uptoBulk d + uptoBulkAll r
def uptoBulkEntries {H : Type} : List (Lit × DataW H) → Nat
  | [] => 0
  | x :: r => uptoBulkEntry x + uptoBulkEntries r
def uptoBulkEntry {H : Type} : Lit × DataW H → Nat
  | (.string bytes, d) => bytes.length + uptoBulk d + 1
  | (_, d) => uptoBulk d + 1
 end
def uptoSmall : (H : Type) → List (DataW H) → Bool := fun _ ds => decide (uptoBulkAll ds ≤ 1048576)
def OpenSpec.upto (s : _root_.Go.ChangeSpec) : _root_.Go.OpenSpec := { _root_.Go.OpenSpec.ofChange s with cond := some uptoSmall }

/-- 'lockkeeperlaw16.CacheRooms', WHERE WHAT IT READS IS OF BULK AT MOST 1048576: true; the input reads as it did. -/
def cacheRoomsUptoRow : OpenClaim := { program := "ytkbjpackijdnkaa", sum := "d44b41ee14b8880f423bb399d2039bd6267c4275175cf3c95e1886a551901fc1", func := "lockkeeper/lockkeeperlaw16.CacheRooms", spec := "cacheRooms", unfollowed := true, recurses := true, apart := false, narrowed := true }
def CacheRoomsUptoSaid : Prop := cacheRoomsUptoRow.holds Try.pinned (OpenSpec.upto cacheRoomsSpec)

/-- 'lockkeeperlaw16.CacheAnew', WHERE WHAT IT READS IS OF BULK AT MOST 1048576: true; the input reads as it did. -/
def cacheAnewUptoRow : OpenClaim := { program := "ytkbjpackijdnkaa", sum := "d44b41ee14b8880f423bb399d2039bd6267c4275175cf3c95e1886a551901fc1", func := "lockkeeper/lockkeeperlaw16.CacheAnew", spec := "cacheAnew", unfollowed := true, recurses := true, apart := false, narrowed := true }
def CacheAnewUptoSaid : Prop := cacheAnewUptoRow.holds Try.pinned (OpenSpec.upto cacheAnewSpec)

/-- 'lockkeeperlaw16.CacheGood', WHERE WHAT IT READS IS OF BULK AT MOST 1048576: true; the input reads as it did. -/
def cacheGoodUptoRow : OpenClaim := { program := "ytkbjpackijdnkaa", sum := "d44b41ee14b8880f423bb399d2039bd6267c4275175cf3c95e1886a551901fc1", func := "lockkeeper/lockkeeperlaw16.CacheGood", spec := "cacheGood", unfollowed := true, recurses := true, apart := false, narrowed := true }
def CacheGoodUptoSaid : Prop := cacheGoodUptoRow.holds Try.pinned (OpenSpec.upto cacheGoodSpec)

/-- 'lockkeeperlaw18.ShareWants', WHERE WHAT IT READS IS OF BULK AT MOST 1048576: true; the input reads as it did. -/
def shareWantsUptoRow : OpenClaim := { program := "ytkbjpackijdnkaa", sum := "d44b41ee14b8880f423bb399d2039bd6267c4275175cf3c95e1886a551901fc1", func := "lockkeeper/lockkeeperlaw18.ShareWants", spec := "shareWants", inPlace := ["sync/atomic.AddInt64"], unfollowed := true, recurses := true, apart := false, narrowed := true }
def ShareWantsUptoSaid : Prop := shareWantsUptoRow.holds Try.pinned (OpenSpec.upto shareWantsSpec)

/-- 'lockkeeperlaw18.ShareLast', WHERE WHAT IT READS IS OF BULK AT MOST 1048576: true; the input reads as it did. -/
def shareLastUptoRow : OpenClaim := { program := "ytkbjpackijdnkaa", sum := "d44b41ee14b8880f423bb399d2039bd6267c4275175cf3c95e1886a551901fc1", func := "lockkeeper/lockkeeperlaw18.ShareLast", spec := "shareLast", inPlace := ["sync/atomic.AddInt64"], unfollowed := true, recurses := true, apart := false, narrowed := true }
def ShareLastUptoSaid : Prop := shareLastUptoRow.holds Try.pinned (OpenSpec.upto shareLastSpec)

/-- 'lockkeeperlaw16.CachePlays', WHERE WHAT IT READS IS OF BULK AT MOST 1048576: true; the input reads as it did. -/
def cachePlaysUptoRow : OpenClaim := { program := "ytkbjpackijdnkaa", sum := "d44b41ee14b8880f423bb399d2039bd6267c4275175cf3c95e1886a551901fc1", func := "lockkeeper/lockkeeperlaw16.CachePlays", spec := "cachePlays", unfollowed := true, recurses := true, apart := false, narrowed := true }
def CachePlaysUptoSaid : Prop := cachePlaysUptoRow.holds Try.pinned (OpenSpec.upto cachePlaysSpec)

/-- 'lockkeeperlaw16.CacheApart', WHERE WHAT IT READS IS OF BULK AT MOST 1048576: true; the input reads as it did. -/
def cacheApartUptoRow : OpenClaim := { program := "ytkbjpackijdnkaa", sum := "d44b41ee14b8880f423bb399d2039bd6267c4275175cf3c95e1886a551901fc1", func := "lockkeeper/lockkeeperlaw16.CacheApart", spec := "cacheApart", unfollowed := true, recurses := true, apart := false, narrowed := true }
def CacheApartUptoSaid : Prop := cacheApartUptoRow.holds Try.pinned (OpenSpec.upto cacheApartSpec)

/-- 'lockkeeperlaw18.SharePlays', WHERE WHAT IT READS IS OF BULK AT MOST 1048576: true; the input reads as it did. -/
def sharePlaysUptoRow : OpenClaim := { program := "ytkbjpackijdnkaa", sum := "d44b41ee14b8880f423bb399d2039bd6267c4275175cf3c95e1886a551901fc1", func := "lockkeeper/lockkeeperlaw18.SharePlays", spec := "sharePlays", inPlace := ["sync/atomic.AddInt64"], unfollowed := true, recurses := true, apart := false, narrowed := true }
def SharePlaysUptoSaid : Prop := sharePlaysUptoRow.holds Try.pinned (OpenSpec.upto sharePlaysSpec)

/-- 'lockkeeperlaw18.ShareHolds', WHERE WHAT IT READS IS OF BULK AT MOST 1048576: true; the input reads as it did. -/
def shareHoldsUptoRow : OpenClaim := { program := "ytkbjpackijdnkaa", sum := "d44b41ee14b8880f423bb399d2039bd6267c4275175cf3c95e1886a551901fc1", func := "lockkeeper/lockkeeperlaw18.ShareHolds", spec := "shareHolds", inPlace := ["sync/atomic.AddInt64"], unfollowed := true, recurses := true, apart := false, narrowed := true }
def ShareHoldsUptoSaid : Prop := shareHoldsUptoRow.holds Try.pinned (OpenSpec.upto shareHoldsSpec)

end Rows
end Go.Proofs.Ytkbjpackijdnkaa
