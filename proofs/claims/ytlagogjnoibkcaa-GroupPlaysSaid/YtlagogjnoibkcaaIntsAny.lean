/- Ints of the statements' own package, by contract. -/
import Derived.Test.YtlagogjnoibkcaaIntRows
import Derived.Deep.QuietTactic
import Derived.BigQuiet
namespace Go.Proofs.Ytlagogjnoibkcaa
open Go.RowKit
set_option linter.unusedVariables false
set_option linter.unusedSimpArgs false

set_option maxHeartbeats 1600000 in
/-- Two lists of numbers. -/
theorem ints_any (v v' : Value) (xs ys : List Int) (hx : xs.length < 1000000) (hy : ys.length < 1000000) (w : World) (h : RI w v xs) (h' : RI w v' ys) :
    Calls Try.prog 38 #[v, v'] w fun e w' => e = .returned (.bool (decide (xs = ys))) ∧ Ext [] w w' := by
  obtain ⟨a, cap, rfl⟩ := h.val
  obtain ⟨a', cap', rfl⟩ := h'.val
  obtain ⟨n, hn⟩ : ∃ n, n = xs.length := ⟨_, rfl⟩
  obtain ⟨m, hm⟩ : ∃ n, n = ys.length := ⟨_, rfl⟩
  rw [← hn] at h ⊢; rw [← hm] at h' ⊢
  have HN := Lib.hid hn; have HM := Lib.hid hm
  have hn1 : n < 1000000 := by omega
  have hm1 : m < 1000000 := by omega
  by_cases hnm : n = m
  · subst hnm
    clear hn hm hx hy hm1
    go_enter Try.func38, Try.ntmps38
    go_wp2_with fail
    go_loopw [5] (fun iv wr => ∃ (k : Nat), k ≤ n ∧ iv = .int .i64 k ∧ Ext [] w wr ∧ Hid (∀ j : Nat, j < k → xs[j]? = ys[j]?)) (fun iv _ => n - (intOf iv).toNat)
    case atStart => exact ⟨0, Nat.zero_le _, rfl, Ext.refl _ _, fun j hj => absurd hj (Nat.not_lt_zero _)⟩
    case round =>
      obtain ⟨k, hkn, rfl, her, hall⟩ := hrel
      by_cases hk : k < n
      · obtain ⟨t, ht⟩ : ∃ t, xs[k]? = some t := ⟨_, List.getElem?_eq_getElem (by rw [← HN.out]; exact hk)⟩
        obtain ⟨t', ht'⟩ : ∃ t, ys[k]? = some t := ⟨_, List.getElem?_eq_getElem (by rw [← HM.out]; exact hk)⟩
        have d1 : decide (k < n) = true := decide_eq_true hk
        obtain ⟨g, rfl, hlt⟩ := h.addr (by omega)
        obtain ⟨g', rfl, hlt'⟩ := h'.addr (by omega)
        have hx0 := (h.keep her (by simp)).cell encI_ok.len ht 0 (by omega)
        have hy0 := (h'.keep her (by simp)).cell encI_ok.len ht' 0 (by omega)
        simp only [encI, Nat.add_zero, Nat.mul_one, List.getElem?_cons_zero] at hx0 hy0
        have b1 : (0 : Int) ≤ (k : Int) := by omega
        have b2 : (k : Int) < (n : Int) := by omega
        have HT := Lib.hid ht; have HT' := Lib.hid ht'
        clear ht ht' h h'
        by_cases hq : t = t'
        rotate_left
        · have HBE := Lib.hid hq
          have hne : decide (xs = ys) = false := by
            apply decide_eq_false
            intro e
            rw [e, HT'.out] at HT
            have h1 := HT.out
            injection h1 with h1
            exact HBE.out h1.symm
          have HNE := Lib.hid hne
          have hq2 : (t != t') = true := by simp [hq]
          have hq3 : (t == t') = false := by simp [hq]
          clear hne
          go_wp2_with fail
          go_quiet (fail)
          go_wp2_with fail
          go_ret
          exact ⟨ret_bool HNE.out, her.drewN _⟩
        · subst hq
          go_wp2_with fail
          go_quiet (fail)
          go_wp2_with fail
          refine ⟨⟨k + 1, by omega, rfl, her.drewN _, ?_⟩, by simp [intOf]; omega⟩
          intro j hj
          rcases Nat.lt_or_ge j k with h1 | h1
          · exact hall.out j h1
          · have : j = k := by omega
            rw [this, HT.out, HT'.out]
      · have d1 : decide (k < n) = false := decide_eq_false hk
        have he : decide (xs = ys) = true := by
          apply decide_eq_true
          refine List.ext_getElem? fun j => ?_
          rcases Nat.lt_or_ge j n with h1 | h1
          · exact hall.out j (by omega)
          · rw [List.getElem?_eq_none (by rw [← HN.out]; exact h1), List.getElem?_eq_none (by rw [← HM.out]; exact h1)]
        have HE := Lib.hid he
        clear he
        go_wp2_with fail
        go_ret
        exact ⟨ret_bool HE.out, her⟩
  · have hne : decide (xs = ys) = false := by
      apply decide_eq_false
      intro e
      rw [hn, hm, e] at hnm
      exact hnm rfl
    have HNE := Lib.hid hne
    have d1 : (n != m) = true := by rw [bne_iff_ne]; exact hnm
    clear hn hm hx hy hne
    go_enter Try.func38, Try.ntmps38
    go_wp2_with fail
    go_ret
    exact ⟨ret_bool HNE.out, Ext.refl _ _⟩
end Go.Proofs.Ytlagogjnoibkcaa
