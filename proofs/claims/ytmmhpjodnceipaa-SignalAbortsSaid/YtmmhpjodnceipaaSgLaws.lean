/- What is under a signal: in order, itself first, and what is under one of them. Marks of numbers. -/
import Derived.Test.YtmmhpjodnceipaaRefSgO
import Derived.Test.YtmmhpjodnceipaaStructs
namespace Go.Proofs.Ytmmhpjodnceipaa
open Go.RowKit
set_option linter.unusedVariables false
set_option linter.unusedSimpArgs false

theorem undN_cons (us : List (List Int)) (i : Nat) : ∀ m, ∃ r, undN us i m = ((i : Int) + 1) :: r
  | 0 => ⟨[], rfl⟩
  | m + 1 => by
    obtain ⟨r, hr⟩ := undN_cons us i m
    rw [undN]
    split
    · split
      · exact ⟨r ++ [(i : Int) + 2 + m], by rw [hr]; rfl⟩
      · exact ⟨r, hr⟩
    · exact ⟨r, hr⟩
theorem undN_up (us : List (List Int)) (i : Nat) : ∀ m, (undN us i m).Pairwise (· < ·)
  | 0 => by simp [undN]
  | m + 1 => by
    have ih := undN_up us i m
    rw [undN]
    split
    · split
      · rw [List.pairwise_append]
        refine ⟨ih, by simp, fun a ha c hc => ?_⟩
        have hc : c = (i : Int) + 2 + m := by simpa using hc
        obtain ⟨q, h1, h2, h3⟩ := undN_range us i m a ha
        omega
      · exact ih
    · exact ih
theorem undN_mono (us : List (List Int)) (i m : Nat) : ∀ d, ∀ z ∈ undN us i m, z ∈ undN us i (m + d)
  | 0, z, h => h
  | d + 1, z, h => by
    have := undN_mono us i m d z h
    rw [show m + (d + 1) = (m + d) + 1 by omega, undN]
    split
    · split
      · exact List.mem_append_left _ this
      · exact this
    · exact this
theorem undN_back (us : List (List Int)) (i m : Nat) : ∀ d, ∀ z ∈ undN us i (m + d), z ≤ (i : Int) + m + 1 → z ∈ undN us i m
  | 0, z, h, _ => h
  | d + 1, z, h, hz => by
    rw [show m + (d + 1) = (m + d) + 1 by omega, undN] at h
    have ih := undN_back us i m d z
    split at h
    · split at h
      · rcases List.mem_append.1 h with h | h
        · exact ih h hz
        · simp at h; omega
      · exact ih h hz
    · exact ih h hz
theorem undN_trans (us : List (List Int)) (i k : Nat) (hik : i ≤ k) (hk : (k : Int) + 1 ∈ undN us i (k - i)) : ∀ m, ∀ z ∈ undN us k m, z ∈ undN us i (k - i + m)
  | 0, z, h => by
    have h : z = (k : Int) + 1 := by simpa [undN] using h
    rw [h]; exact hk
  | m + 1, z, h => by
    have ih := undN_trans us i k hik hk m
    rw [undN] at h
    rw [show k - i + (m + 1) = (k - i + m) + 1 by omega, undN, show i + 1 + (k - i + m) = k + 1 + m by omega]
    cases hq : us[k + 1 + m]? with
    | none => rw [hq] at h; exact ih z h
    | some u =>
      rw [hq] at h
      simp only at h ⊢
      have hup : u.any (hasI (undN us k m)) = true → u.any (hasI (undN us i (k - i + m))) = true := by
        intro ha
        obtain ⟨p, hp, hpm⟩ := List.any_eq_true.1 ha
        exact List.any_eq_true.2 ⟨p, hp, hasI_mem.2 (ih p (hasI_mem.1 hpm))⟩
      cases ha : u.any (hasI (undN us k m)) with
      | false =>
        rw [ha] at h
        have := ih z (by simpa using h)
        split
        · exact List.mem_append_left _ this
        · exact this
      | true =>
        rw [ha] at h
        rw [if_pos (hup ha)]
        rcases List.mem_append.1 (by simpa using h : z ∈ undN us k m ++ [(k : Int) + 2 + m]) with h | h
        · exact List.mem_append_left _ (ih z h)
        · refine List.mem_append_right _ ?_
          simp at h ⊢; omega

theorem undS_at {M : List Sm} {i : Nat} (h : i < M.length) : undS M ((i : Int) + 1) = undN (M.map Sm.up) i (M.length - i - 1) := by
  unfold undS
  rw [if_pos (isS_succ h), show ((i : Int) + 1 - 1).toNat = i by omega, show M.length - ((i : Int) + 1).toNat = M.length - i - 1 by omega]
theorem undS_no (M : List Sm) : undS M ((M.length : Int) + 1) = [] := by
  unfold undS
  rw [if_neg (by unfold isS; simp; omega)]
theorem undS_range {M : List Sm} {i : Nat} (h : i < M.length) {z : Int} (hz : z ∈ undS M ((i : Int) + 1)) : ∃ q : Nat, z = (q : Int) + 1 ∧ i ≤ q ∧ q < M.length := by
  rw [undS_at h] at hz
  obtain ⟨q, h1, h2, h3⟩ := undN_range _ _ _ z hz
  exact ⟨q, h1, h2, by omega⟩
theorem undS_trans {M : List Sm} {i k : Nat} (h : i < M.length) (hk : (k : Int) + 1 ∈ undS M ((i : Int) + 1)) {z : Int} (hz : z ∈ undS M ((k : Int) + 1)) : z ∈ undS M ((i : Int) + 1) := by
  obtain ⟨q, h1, h2, h3⟩ := undS_range h hk
  have hqk : q = k := by omega
  subst hqk
  rw [undS_at h] at hk ⊢
  rw [undS_at h3] at hz
  have e1 : M.length - i - 1 = q - i + (M.length - q - 1) := by omega
  rw [e1] at hk ⊢
  exact undN_trans _ i q h2 (undN_back _ i (q - i) _ _ hk (by omega)) _ z hz
theorem undS_cons {M : List Sm} {i : Nat} (h : i < M.length) : ∃ r, undS M ((i : Int) + 1) = ((i : Int) + 1) :: r := by
  rw [undS_at h]; exact undN_cons _ _ _
theorem undS_up {M : List Sm} {i : Nat} (h : i < M.length) : (undS M ((i : Int) + 1)).Pairwise (· < ·) := by
  rw [undS_at h]; exact undN_up _ _ _

/-- Which of the numbers 0 to n are so. -/
def mkB (n : Nat) (p : Int → Bool) : List Bool := (List.range (n + 1)).map fun (z : Nat) => p (z : Int)
theorem mkB_len (n : Nat) (p : Int → Bool) : (mkB n p).length = n + 1 := by simp [mkB]
theorem mkB_at {n : Nat} {p : Int → Bool} {z : Nat} (h : z < n + 1) : (mkB n p)[z]? = some (p (z : Int)) := by
  unfold mkB; rw [List.getElem?_map, List.getElem?_range h]; rfl
theorem mkB_none (n : Nat) (p : Int → Bool) (h : ∀ z, z < n + 1 → p (z : Int) = false) : List.replicate (n + 1) false = mkB n p := by
  apply List.ext_getElem?
  intro z
  by_cases hz : z < n + 1
  · rw [mkB_at hz, h z hz]; simp [hz]
  · rw [List.getElem?_eq_none (by simp; omega), List.getElem?_eq_none (by rw [mkB_len]; omega)]
theorem mkB_set (n k : Nat) (p p' : Int → Bool) (h : ∀ z, z < n + 1 → p' (z : Int) = if z = k then true else p (z : Int)) : (mkB n p).set k true = mkB n p' := by
  apply List.ext_getElem?
  intro z
  rw [List.getElem?_set, mkB_len]
  by_cases hz : z < n + 1
  · rw [mkB_at hz, mkB_at hz, h z hz]
    by_cases hk : k = z
    · subst hk; simp [hz]
    · rw [if_neg hk, if_neg (Ne.symm hk)]
  · rw [List.getElem?_eq_none (by rw [mkB_len]; omega), List.getElem?_eq_none (by rw [mkB_len]; omega)]
    by_cases hk : k = z
    · subst hk; rw [if_pos rfl, if_neg hz]
    · rw [if_neg hk]
end Go.Proofs.Ytmmhpjodnceipaa
