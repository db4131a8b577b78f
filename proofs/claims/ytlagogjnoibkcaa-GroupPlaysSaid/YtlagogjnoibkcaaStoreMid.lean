/- A store of a struct of several cells, in the midst of a plain region. -/
import Derived.Test.YtlagogjnoibkcaaLib1
namespace Go.Proofs.Ytlagogjnoibkcaa
open Go.RowKit
set_option linter.unusedVariables false
set_option linter.unusedSimpArgs false


/-- A store of a struct into the midst of a block, at a plain region. -/
theorem wpList_store_mid {P : Program} {ops : Array Oper} {rest : List Oper} {o : Oper} {a : Act} {w : World} {Q : Exit → Act → World → Prop} (hN : o.dst = none) (hgd : o.guard = none)
    (ty : TypeId) (x y : Operand) (ho : o.op = .store ty x y) (b off : Nat) (cells : Array Value) (hx : a.eval x = .pointer (some ⟨b, off, none⟩)) (hy : a.eval y = .agg cells)
    (ht : w.there b off cells.size) (hi : (P.info? ty).map (·.size) = some cells.size) (h1 : cells.all (·.oneCell') = true)
    (h : wpList P ops Q rest a (w.setCells b off cells.toList)) : wpList P ops Q (o :: rest) a w := by
  refine wpList_plain hgd fun K hK => ?_
  refine wp_store_mid ty x y ho b off cells hx hy ht hi h1 ?_
  rw [hN]
  exact hK _ _ h
end Go.Proofs.Ytlagogjnoibkcaa
