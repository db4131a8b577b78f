/- TimerRooms: its walk. -/
import Derived.Test.YtlnablnnnnkeaaaAwake
import Derived.Test.YtlnablnnnnkeaaaLow
namespace Go.Proofs.Ytlnablnnnnkeaaa
open Go.RowKit Go.Proofs.YtlnablnnnnkeaaaW.PrintLast
set_option linter.unusedVariables false
set_option linter.unusedSimpArgs false

theorem clampM_id {m : Int} (h1 : 1 ≤ m) (h2 : m ≤ 256) : clampM m = m := by unfold clampM; omega

set_option maxHeartbeats 6400000 in
theorem timerRooms_walk (w : World) (m : Int) (hm : (Lit.int .i64 m).wf = true) :
    Calls Try.prog 6 #[.int .i64 m] w fun e w' => e = .returned (.bool true) ∧ Ext [] w w' := by
  obtain ⟨k, hk, hk1, hk2⟩ : ∃ k : Nat, (k : Int) = 1 + lowI m 256 ∧ 1 ≤ k ∧ k ≤ 256 := by
    have := lowI_bd m 256 (by omega)
    exact ⟨(1 + lowI m 256).toNat, by omega, by omega, by omega⟩
  have hcl : clampM (k : Int) = k := clampM_id (by omega) (by omega)
  have hlo : lowI m 256 = (k : Int) - 1 := by omega
  have hLow := fun w => low_any m 256 (by omega) (by omega) w
  rw [hlo] at hLow
  have HLOW := Lib.hid hLow
  have HCL := Lib.hid hcl
  clear hk hlo hLow hcl
  go_enter Try.func6, Try.ntmps6
  go_wp2_with fail
  refine (HLOW.out w).mono ?_
  rintro e w0 ⟨rfl, rfl⟩
  have hkk : (1 : Int) + ((k : Int) - 1) = k := by omega
  go_wp2_with fail
  refine (wo_new _ w).mono ?_
  rintro e w1 ⟨rfl, h1, e1⟩
  rw [HCL.out] at h1
  go_wp2_with fail
  go_loopw [5] (fun iv wr => ∃ (j : Nat) (S : List Nat) (L : List One), j ≤ k ∧ iv = .int .i64 ((j : Int) + 1) ∧ WO wr w.heap.size S L k j ∧ L.length = j ∧ Hid (0 < j → ∃ t ∈ L, t.id = 1) ∧ Ext [] w wr ∧ Hid (∀ x ∈ S, w.heap.size ≤ x)) (fun iv _ => k + 1 - (intOf iv).toNat)
  case atStart => exact ⟨0, _, [], Nat.zero_le _, rfl, h1, rfl, fun h => absurd h (Nat.lt_irrefl _), e1, by intro x hx; simp at hx; omega⟩
  case round =>
    obtain ⟨j, S, L, hjk, rfl, hw, hlen, hone, her, hS⟩ := hrel
    by_cases hj : j < k
    · have d1 : decide ((j : Int) + 1 ≤ (k : Int)) = true := decide_eq_true (by omega)
      go_wp2_with fail
      refine (wo_arm _ S L _ _ _ _ (by omega) wr hw (by omega) (by omega)).mono ?_
      rintro e w3 (⟨h, _⟩ | ⟨-, rfl, S', h3, e3, k3⟩)
      · omega
      have her3 := her.fresh e3 hS.out
      have hS3 := Lib.hid (own_ge hS.out k3 her.size)
      have hone' : Hid (0 < j + 1 → ∃ t ∈ (⟨(j : Int) + 1, (j : Int) + 1, (j : Int) + 1⟩ : One) :: L, t.id = 1) := by
        intro _
        rcases Nat.eq_zero_or_pos j with h | h
        · exact ⟨_, List.mem_cons_self, by simp [h]⟩
        · obtain ⟨t, ht, h⟩ := hone.out h
          exact ⟨t, List.mem_cons_of_mem _ ht, h⟩
      clear k3 e3 hone
      go_wp2_with fail
      exact ⟨⟨j + 1, S', _, by omega, rfl, h3, by simp [hlen], hone', her3, hS3⟩, by simp [intOf]; omega⟩
    · have d1 : decide ((j : Int) + 1 ≤ (k : Int)) = false := decide_eq_false (by omega)
      have hjk' : j = k := by omega
      subst hjk'
      go_wp2_with fail
      refine (wo_arm _ S L _ _ 0 0 (by omega) wr hw (by omega) (by omega)).mono ?_
      rintro e w3 (⟨-, rfl, h3, e3⟩ | ⟨h, _⟩)
      rotate_left
      · omega
      have her3 := her.trans e3 (by simp)
      clear e3
      go_wp2_with fail
      refine (wo_cancel _ S L _ _ 1 (by omega) w3 h3).mono ?_
      rintro e w4 (⟨hno, _⟩ | ⟨t, L', hp, -, rfl, h4, e4⟩)
      · obtain ⟨t, ht, h⟩ := hone.out (by omega)
        exact absurd h (hno t ht)
      have her4 := her3.fresh e4 hS.out
      have hl' := hp.length_eq
      simp only [List.length_cons] at hl'
      have HP := Lib.hid hp
      clear e4 hp
      go_wp2_with fail
      refine (wo_arm _ S L' _ _ 0 0 (by omega) w4 h4 (by omega) (by omega)).mono ?_
      rintro e w5 (⟨h, _⟩ | ⟨-, rfl, S', h5, e5, k5⟩)
      · omega
      have her5 := her4.fresh e5 hS.out
      have hln := wo_len _ _ _ _ _ _ h5
      rw [List.length_cons, hl', hlen] at hln
      have HLN := Lib.hid hln
      clear hln hl' e5 k5 hlen
      go_wp2_with fail
      refine HLN.out.mono ?_
      rintro e w6 ⟨rfl, rfl⟩
      go_wp2_with fail
      refine (awake_any _).mono ?_
      rintro e w6 ⟨rfl, e6⟩
      go_wp2_with fail
      go_ret
      exact ⟨rfl, her5.trans e6 (by simp)⟩
end Go.Proofs.Ytlnablnnnnkeaaa
