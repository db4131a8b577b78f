/- GroupPlays: what is kept by each deed (plain). -/
import Derived.Test.YtlagogjnoibkcaaRGr5
namespace Go.Proofs.Ytlagogjnoibkcaa
open Go.RowKit
set_option linter.unusedVariables false
set_option linter.unusedSimpArgs false

structure PInv (i : Nat) (M : List Gk) : Prop where
  len : M.length ≤ 64
  lens : ∀ s ∈ M, s.ids.length ≤ i
  sort : SortG M
theorem PInv.nil : PInv 0 [] := ⟨by simp, by simp, by intro s hs; simp at hs⟩
theorem PInv.ok {i : Nat} {M : List Gk} (h : PInv i M) (hi : i < 1000) : OkG M := fun s hs => by have := h.lens s hs; omega
theorem PInv.up {i : Nat} {M : List Gk} (h : PInv i M) : PInv (i + 1) M := ⟨h.len, fun s hs => by have := h.lens s hs; omega, h.sort⟩
theorem PInv.put {i k : Nat} {M : List Gk} (h : PInv i M) {s : Gk} (h1 : s.ids.length ≤ i + 1) (h2 : s.ids.Pairwise (· < ·)) : PInv (i + 1) (M.set k s) :=
  ⟨by rw [List.length_set]; exact h.len, fun t ht => (List.mem_or_eq_of_mem_set ht).elim (fun h3 => by have := h.lens t h3; omega) (fun e => e ▸ h1), fun t ht => (List.mem_or_eq_of_mem_set ht).elim (h.sort t) (fun e => e ▸ h2)⟩
theorem PInv.make {i : Nat} {M : List Gk} (h : PInv i M) : PInv (i + 1) (makeM M).2 := by
  unfold makeM
  by_cases hl : 64 ≤ M.length
  · rw [if_pos hl]; exact h.up
  · rw [if_neg hl]
    refine ⟨by simp; omega, fun s hs => ?_, fun s hs => ?_⟩
    · rcases List.mem_append.1 hs with hs | hs
      · exact h.up.lens s hs
      · simp at hs; subst hs; simp
    · rcases List.mem_append.1 hs with hs | hs
      · exact h.sort s hs
      · simp at hs; subst hs; simp
theorem of_ge (M : List Gk) (id : Int) : 0 ≤ ofG M id := by
  rcases of_cases M id with ⟨i, s, h1, h2, h3⟩ | ⟨h1, h2⟩ <;> omega
theorem PInv.join {i : Nat} {M : List Gk} (h : PInv i M) (g id : Int) : PInv (i + 1) (joinG M g id).2 := by
  unfold joinG
  by_cases h1 : hasM M g = false
  · rw [if_pos h1]; exact h.up
  · rw [if_neg h1]
    cases hs : M[(g - 1).toNat]? with
    | none => exact h.up
    | some s =>
      have hsm := List.mem_of_getElem? hs
      by_cases ht : s.torn = true
      · simp only [if_pos ht]; exact h.up
      · simp only [if_neg ht]
        by_cases hi : id < 1
        · simp only [if_pos hi]; exact h.up
        · simp only [if_neg hi]
          by_cases ho : 0 < ofG M id
          · simp only [if_pos ho]; exact h.up
          · simp only [if_neg ho]
            have hno : id ∉ s.ids := fun hm => by
              rcases of_cases M id with ⟨j, t, k1, k2, k3⟩ | ⟨k1, k2⟩
              · omega
              · exact k1 s hsm hm
            exact h.put (by rw [insG_len]; have := h.lens s hsm; omega) (insG_sort (h.sort s hsm) hno)
theorem PInv.leave {i : Nat} {M : List Gk} (h : PInv i M) (id : Int) : PInv (i + 1) (leaveG M id).2 := by
  unfold leaveG
  cases hf : M.findIdx? (inA id) with
  | none => exact h.up
  | some k =>
    cases hs : M[k]? with
    | none => simp only [hs]; exact h.up
    | some s =>
      simp only [hs]
      have hsm := List.mem_of_getElem? hs
      have hsub := List.eraseIdx_sublist s.ids (s.ids.countP (· < id))
      exact h.put (by have := hsub.length_le; have := h.lens s hsm; show (s.ids.eraseIdx _).length ≤ _; omega) ((h.sort s hsm).sublist hsub)
theorem PInv.tear {i : Nat} {M : List Gk} (h : PInv i M) (g : Int) : PInv (i + 1) (tearG M g).2 := by
  unfold tearG
  by_cases h1 : hasM M g = false
  · rw [if_pos h1]; exact h.up
  · rw [if_neg h1]
    cases hs : M[(g - 1).toNat]? with
    | none => exact h.up
    | some s =>
      by_cases ht : s.torn = true
      · simp only [if_pos ht]; exact h.up
      · simp only [if_neg ht]; exact h.put (by simp) (by simp)
theorem tearG_len {i : Nat} {M : List Gk} (h : PInv i M) (g : Int) : (tearG M g).1.1.length ≤ i := by
  unfold tearG
  by_cases h1 : hasM M g = false
  · rw [if_pos h1]; simp
  · rw [if_neg h1]
    cases hs : M[(g - 1).toNat]? with
    | none => simp
    | some s =>
      by_cases ht : s.torn = true
      · simp only [if_pos ht]; simp
      · simp only [if_neg ht]; exact h.lens s (List.mem_of_getElem? hs)
theorem memG_len {i : Nat} {M : List Gk} (h : PInv i M) (g : Int) : (memG M g).length ≤ i := by
  unfold memG
  by_cases h1 : hasM M g = true
  · rw [if_pos h1]
    cases hs : M[(g - 1).toNat]? with
    | none => simp
    | some s => simpa using h.lens s (List.mem_of_getElem? hs)
  · rw [if_neg h1]; simp
end Go.Proofs.Ytlagogjnoibkcaa
