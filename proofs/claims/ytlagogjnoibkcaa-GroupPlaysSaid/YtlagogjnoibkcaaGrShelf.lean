/- The library's BinarySearch and Insert at []int: the kit's contracts over this program. -/
import Derived.Test.YtlagogjnoibkcaaOb
import Derived.Shelf.Spec.SlicesInsertGrow
import Derived.Shelf.Spec.SlicesInsert
import Derived.Shelf.Slices.SearchI
namespace Go.Proofs.Ytlagogjnoibkcaa
open Go.RowKit Go.Shelf
set_option linter.unusedVariables false
set_option linter.unusedSimpArgs false

def renF (k : Nat) : Nat := if k = 21 then 51 else if k = 25 then 50 else if k = 27 then 61 else if k = 28 then 62 else if k = 31 then 59 else if k = 32 then 60 else if k = 35 then 65 else if k = 37 then 64 else if k = 39 then 66 else k
def renT (k : Nat) : Nat := if k = 22 then 42 else if k = 40 then 66 else k
def ren : Ren := ⟨renF, renT, fun x => x⟩

theorem layInsert : Lays2.n21 Try.prog ren where
  mixed := by kernel_rfl
  f21 := by kernel_rfl
  f27 := by kernel_rfl
  f28 := by kernel_rfl
  f35 := by kernel_rfl
  f39 := by kernel_rfl
  t0 := by kernel_rfl
  a0 := Try.isAgg0
  z0 := Try.sizeOf0
  v0 := Try.zeroValue0
  t3 := by kernel_rfl
  a3 := Try.isAgg3
  z3 := Try.sizeOf3
  v3 := Try.zeroValue3
  t4 := by kernel_rfl
  a4 := Try.isAgg4
  z4 := Try.sizeOf4
  v4 := Try.zeroValue4
  t22 := by kernel_rfl
  a22 := Try.isAgg42
  z22 := Try.sizeOf42
  v22 := Try.zeroValue42
  i3 := by kernel_rfl
theorem laySearch : Lays2.n25 Try.prog ren where
  mixed := by kernel_rfl
  f25 := by kernel_rfl
  f31 := by kernel_rfl
  f32 := by kernel_rfl
  f37 := by kernel_rfl
  t0 := by kernel_rfl
  a0 := Try.isAgg0
  z0 := Try.sizeOf0
  v0 := Try.zeroValue0
  t3 := by kernel_rfl
  a3 := Try.isAgg3
  z3 := Try.sizeOf3
  v3 := Try.zeroValue3
  t4 := by kernel_rfl
  a4 := Try.isAgg4
  z4 := Try.sizeOf4
  v4 := Try.zeroValue4
  t22 := by kernel_rfl
  a22 := Try.isAgg42
  z22 := Try.sizeOf42
  v22 := Try.zeroValue42
  t40 := by kernel_rfl
  a40 := Try.isAgg66
  z40 := Try.sizeOf66
  v40 := Try.zeroValue66
end Go.Proofs.Ytlagogjnoibkcaa
