/- Ints of the statements' own package. -/
import Derived.Test.YtlnablnnnnkeaaaDueAll
namespace Go.Proofs.Ytlnablnnnnkeaaa
open Go.RowKit Go.Proofs.YtlnablnnnnkeaaaW.PrintLast
set_option linter.unusedVariables false
set_option linter.unusedSimpArgs false

set_option maxHeartbeats 1600000 in
/-- Two rows alike. -/
theorem ints_same (v v' : Value) (xs : List Int) (hx : xs.length < 1000000) (w : World) (h : Rw enc1 1 3 w v xs) (h' : Rw enc1 1 3 w v' xs) :
    Calls Try.prog 12 #[v, v'] w fun e w' => e = .returned (.bool true) ∧ Ext [] w w' := by
  obtain ⟨a, cap, rfl⟩ := h.val
  obtain ⟨a', cap', rfl⟩ := h'.val
  obtain ⟨n, hn⟩ : ∃ n, n = xs.length := ⟨_, rfl⟩
  rw [← hn] at h h' ⊢
  have HN := Lib.hid hn
  have hn1 : n < 1000000 := by omega
  clear hn hx
  go_enter Try.func12, Try.ntmps12
  go_wp2_with fail
  go_loopw [5] (fun iv wr => ∃ (k : Nat), k ≤ n ∧ iv = .int .i64 k ∧ Ext [] w wr) (fun iv _ => n - (intOf iv).toNat)
  case atStart => exact ⟨0, Nat.zero_le _, rfl, Ext.refl _ _⟩
  case round =>
    obtain ⟨k, hkn, rfl, her⟩ := hrel
    by_cases hk : k < n
    · obtain ⟨t, ht⟩ : ∃ t, xs[k]? = some t := ⟨_, List.getElem?_eq_getElem (by rw [← HN.out]; exact hk)⟩
      have d1 : decide (k < n) = true := decide_eq_true hk
      obtain ⟨g, c, hv, hlt, hc⟩ := h.form (by rw [← HN.out]; omega)
      obtain ⟨g', c', hv', hlt', hc'⟩ := h'.form (by rw [← HN.out]; omega)
      injection hv with hv1 hv2 hv3
      injection hv' with hv1' hv2' hv3'
      subst hv1 hv3 hv1' hv3'
      clear hv2 hv2' hc hc'
      have hx0 := (h.keep her (by simp)).cell enc1_len ht 0 (by omega)
      have hy0 := (h'.keep her (by simp)).cell enc1_len ht 0 (by omega)
      simp only [enc1, Nat.add_zero, Nat.mul_one, List.getElem?_cons_zero] at hx0 hy0
      have b1 : (0 : Int) ≤ (k : Int) := by omega
      have b2 : (k : Int) < (n : Int) := by omega
      go_wp2_with fail
      go_quiet (fail)
      go_wp2_with fail
      exact ⟨⟨k + 1, by omega, rfl, her.drewN _⟩, by simp [intOf]; omega⟩
    · have d1 : decide (k < n) = false := decide_eq_false hk
      go_wp2_with fail
      go_ret
      exact ⟨rfl, her⟩
end Go.Proofs.Ytlnablnnnnkeaaa
