/- A region of a function's code, taken out of the translation by its number. -/
import Derived.Test.YtlnablnnnnkeaaaCore
namespace Go.Proofs.Ytlnablnnnnkeaaa
def regionOf (n : Nat) : Code → Option Code
  | .region i o d => if i = n then some (.region i o d) else none
  | .seq a b => match regionOf n a with
    | some c => some c
    | none => regionOf n b
  | .loop c => regionOf n c
  | .block _ c => regionOf n c
  | .scope c => regionOf n c
  | .cond _ a b => match regionOf n a with
    | some c => some c
    | none => regionOf n b
  | _ => none
end Go.Proofs.Ytlnablnnnnkeaaa
