/- Low of the statements' own package: a number from 0 to below n. -/
import Derived.Test.YtlnablnnnnkeaaaCore
namespace Go.Proofs.Ytlnablnnnnkeaaa
open Go.RowKit

def lowI (x n : Int) : Int := (x % 18446744073709551616) % n

theorem lowI_bd (x n : Int) (h : 1 ≤ n) : 0 ≤ lowI x n ∧ lowI x n < n := ⟨Int.emod_nonneg _ (by omega), Int.emod_lt_of_pos _ (by omega)⟩

set_option maxHeartbeats 400000 in
theorem low_any (x n : Int) (h1 : 1 ≤ n) (h2 : n < 9223372036854775808) (w : World) :
    Calls Try.prog 16 #[.int .i64 x, .int .i64 n] w fun e w' => e = .returned (.int .i64 (lowI x n)) ∧ w = w' := by
  have hb := lowI_bd x n h1
  have e1 : IntKind.u64.wrap x = x % 18446744073709551616 := by simp [IntKind.wrap, IntKind.bits, IntKind.signed]
  have e2 : IntKind.u64.wrap n = n := by simp [IntKind.wrap, IntKind.bits, IntKind.signed]; omega
  have e3 : wrap64 (Int.tmod (x % 18446744073709551616) n) = lowI x n := by
    rw [Int.tmod_eq_emod_of_nonneg (Int.emod_nonneg _ (by omega))]
    unfold lowI at hb ⊢
    generalize (x % 18446744073709551616) % n = q at *
    unfold wrap64; omega
  have e3' : wrap64 ((x % 18446744073709551616) % n) = lowI x n := by
    unfold lowI at hb ⊢
    generalize (x % 18446744073709551616) % n = q at *
    unfold wrap64; omega
  have hn0 : (n == 0) = false := by simp; omega
  have E3 := Lib.hid e3'
  clear e3 e3'
  go_enter Try.func16, Try.ntmps16
  go_wp2
  go_ret
  exact ⟨ret_int E3.out.symm, rfl⟩
end Go.Proofs.Ytlnablnnnnkeaaa
