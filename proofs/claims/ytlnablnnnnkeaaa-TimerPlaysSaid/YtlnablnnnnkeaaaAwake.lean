/- What the chapter tells by example. -/
import Derived.Test.YtlnablnnnnkeaaaObj
import Derived.Test.YtlnablnnnnkeaaaOb
namespace Go.Proofs.Ytlnablnnnnkeaaa
open Go.RowKit Go.Proofs.YtlnablnnnnkeaaaW.PrintLast
set_option linter.unusedVariables false
set_option linter.unusedSimpArgs false

/-- The first of the three. -/
theorem first3 {t : One} {L : List One} (hp : (t :: L).Perm [⟨3, 3, 9⟩, ⟨3, 2, 8⟩, ⟨5, 1, 7⟩]) (hle : ∀ x ∈ L, leO t x) : t = ⟨3, 2, 8⟩ := by
  have ht : t ∈ [(⟨3, 3, 9⟩ : One), ⟨3, 2, 8⟩, ⟨5, 1, 7⟩] := hp.mem_iff.1 (by simp)
  have h2 : (⟨3, 2, 8⟩ : One) ∈ t :: L := hp.mem_iff.2 (by simp)
  rcases List.mem_cons.1 h2 with h2 | h2
  · exact h2.symm
  · have := hle _ h2
    rw [leO_iff] at this
    simp at ht
    rcases ht with rfl | rfl | rfl
    · simp at this
    · rfl
    · simp at this

set_option maxHeartbeats 1600000 in
theorem awake_any (w : World) : Calls Try.prog 8 #[] w fun e w' => e = .returned (.bool true) ∧ Ext [] w w' := by
  go_enter Try.func8, Try.ntmps8
  go_wp2_with fail
  refine (wo_new 9 w).mono ?_
  rintro e w1 ⟨rfl, h1, e1⟩
  have hm : clampM 9 = 9 := by decide
  rw [hm] at h1
  have k1 : ∀ x ∈ [w.heap.size], w.heap.size ≤ x := by simp
  obtain ⟨b, hb⟩ : ∃ b, w.heap.size = b := ⟨_, rfl⟩
  rw [hb] at h1 k1
  go_wp2_with fail
  refine (wo_arm b _ _ _ _ 5 7 (by simp) _ h1 (by omega) (by omega)).mono ?_
  rintro e w2 (⟨h, _⟩ | ⟨-, rfl, S2, h2, e2, k2⟩)
  · simp at h
  go_wp2_with fail
  refine (wo_arm b _ _ _ _ 3 8 (by simp) _ h2 (by omega) (by omega)).mono ?_
  rintro e w3 (⟨h, _⟩ | ⟨-, rfl, S3, h3, e3, k3⟩)
  · simp at h
  go_wp2_with fail
  refine (wo_arm b _ _ _ _ 3 9 (by simp) _ h3 (by omega) (by omega)).mono ?_
  rintro e w4 (⟨h, _⟩ | ⟨-, rfl, S4, h4, e4, k4⟩)
  · simp at h
  go_wp2_with fail
  refine (wo_due b _ _ _ _ 4 (by simp) _ h4).mono ?_
  rintro e w5 (⟨h, _⟩ | ⟨t, L, hp, hle, -, rfl, h5, e5⟩)
  · simp at h
  have ht := first3 hp hle
  subst ht
  have hl : L.length = 2 := by have := hp.length_eq; simpa using this
  go_wp2_with fail
  have hln := wo_len b _ _ _ _ _ h5
  rw [hl] at hln
  refine hln.mono ?_
  rintro e w6 ⟨rfl, rfl⟩
  go_wp2_with fail
  go_ret
  refine ⟨rfl, ?_⟩
  have s1 := e1.size; have s2 := e2.size; have s3 := e3.size; have s4 := e4.size
  rw [hb] at s1
  have K2 := own_ge k1 k2 s1
  have K3 := own_ge K2 k3 (by omega)
  have K4 := own_ge K3 k4 (by omega)

  exact (((e1.fresh e2 (by rw [hb]; exact k1)).fresh e3 (by rw [hb]; exact K2)).fresh e4 (by rw [hb]; exact K3)).fresh e5 (by rw [hb]; exact K4)
end Go.Proofs.Ytlnablnnnnkeaaa
