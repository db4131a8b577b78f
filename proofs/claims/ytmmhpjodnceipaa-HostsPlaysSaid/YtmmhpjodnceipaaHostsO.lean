/- The hosts' table as an object, and what the chapter tells by example. -/
import Derived.Test.YtmmhpjodnceipaaHostsUse
import Derived.Test.YtmmhpjodnceipaaHostsKeys
namespace Go.Proofs.Ytmmhpjodnceipaa
open Go.RowKit
set_option linter.unusedVariables false
set_option linter.unusedSimpArgs false

theorem to_new (m : Int) (w : World) : Calls Try.prog 13 #[.int .i64 m] w fun e w' => e = .returned (.pointer (some ⟨w.heap.size, 0, none⟩)) ∧ TO (clampH m) w' w.heap.size [w.heap.size] [] ∧ Ext [] w w' :=
  (newH_any m w).mono fun _ _ ⟨h1, h2, h3⟩ => ⟨h1, ⟨_, h2, rfl⟩, h3⟩
theorem to_used (most : Int) (b : Nat) (S : List Nat) (xs : List Hs) (key : ByteArray) (hx : xs.length < 1000000) (w : World) (h : TO most w b S xs) :
    Calls Try.prog 15 #[.pointer (some ⟨b, 0, none⟩), .string key] w fun e w' => e = .returned (.int .i64 (usedM xs key)) ∧ Ext [] w w' := by
  obtain ⟨v, h, rfl⟩ := h; exact used_any most b v xs key hx w h
theorem to_has (most : Int) (b : Nat) (S : List Nat) (xs : List Hs) (key : ByteArray) (hx : xs.length < 1000000) (w : World) (h : TO most w b S xs) :
    Calls Try.prog 39 #[.pointer (some ⟨b, 0, none⟩), .string key] w fun e w' => e = .returned (.bool (xs.any (hasKey key))) ∧ Ext [] w w' := by
  obtain ⟨v, h, rfl⟩ := h; exact hasH_any most b v xs key hx w h
theorem to_keys (most : Int) (b : Nat) (S : List Nat) (xs : List Hs) (hx : xs.length < 100000) (w : World) (h : TO most w b S xs) :
    Calls Try.prog 36 #[.pointer (some ⟨b, 0, none⟩)] w (KeysP (xs.map keyOf) w) := by
  obtain ⟨v, h, rfl⟩ := h; exact keys_any most b v xs hx w h
theorem to_free (most : Int) (b : Nat) (S : List Nat) (xs : List Hs) (key : ByteArray) (hx : xs.length < 1000000) (w : World) (h : TO most w b S xs) (hok : HsOk xs) :
    Calls Try.prog 17 #[.pointer (some ⟨b, 0, none⟩), .string key] w fun e w' => e = .returned (.int .i64 (freeM xs key).1) ∧ TO most w' b S (freeM xs key).2 ∧ Ext S w w' := by
  obtain ⟨v, h, rfl⟩ := h
  exact (free_any most b v xs key hx w h hok).mono fun _ _ ⟨h1, h2, h3⟩ => ⟨h1, ⟨_, h2, rfl⟩, h3⟩
theorem to_use (most : Int) (b : Nat) (S : List Nat) (xs : List Hs) (key : ByteArray) (hx : xs.length < 100000) (w : World) (h : TO most w b S xs) (hok : HsOk xs) :
    Calls Try.prog 14 #[.pointer (some ⟨b, 0, none⟩), .string key] w fun e w' => e = .returned (.tuple #[.string (useM most xs key).1, .int .i64 (useM most xs key).2.1]) ∧ Chg (fun w' S' => TO most w' b S' (useM most xs key).2.2) S w w' := by
  obtain ⟨v, h, rfl⟩ := h
  refine (use_any most b v xs key hx w h hok).mono ?_
  rintro e w' ⟨h1, v', h2, h3, h4⟩
  exact ⟨h1, _, ⟨v', h2, rfl⟩, h3, h4⟩

/-! ### What is there -/
theorem ok_erase {xs : List Hs} (h : HsOk xs) (i : Nat) : HsOk (xs.eraseIdx i) := fun x hx => h x (List.mem_of_mem_eraseIdx hx)
theorem ok_snoc {xs : List Hs} (h : HsOk xs) (y : Hs) (h0 : 0 ≤ y.uses) (h6 : y.uses ≤ 6) : HsOk (xs ++ [y]) := fun x hx => by
  rcases List.mem_append.1 hx with hx | hx
  · exact h x hx
  · simp at hx; subst hx; exact ⟨h0, h6⟩
theorem ok_set {xs : List Hs} (h : HsOk xs) (i : Nat) (y : Hs) (h0 : 0 ≤ y.uses) (h6 : y.uses ≤ 6) : HsOk (xs.set i y) := fun x hx => by
  rcases List.mem_or_eq_of_mem_set hx with hx | rfl
  · exact h x hx
  · exact ⟨h0, h6⟩

theorem useM_cases (most : Int) (xs : List Hs) (key : ByteArray) :
    (∃ c, useM most xs key = (⟨#[]⟩, 10, xs) ∧ c = ()) ∨ (∃ i x, xs[i]? = some x ∧ hasKey key x = true ∧ (∀ (j : Nat) y, j < i → xs[j]? = some y → hasKey key y = false) ∧ x.uses < 6 ∧ useM most xs key = (⟨#[]⟩, 0, xs.eraseIdx i ++ [⟨key, x.uses + 1⟩])) ∨
    ((∀ x ∈ xs, hasKey key x = false) ∧ (xs.length : Int) < most ∧ useM most xs key = (⟨#[]⟩, 0, xs ++ [⟨key, 1⟩])) ∨
    (∃ i x, (∀ x ∈ xs, hasKey key x = false) ∧ most ≤ (xs.length : Int) ∧ xs[i]? = some x ∧ isFree x = true ∧ (∀ (j : Nat) y, j < i → xs[j]? = some y → isFree y = false) ∧ useM most xs key = (x.key, 0, xs.eraseIdx i ++ [⟨key, 1⟩])) := by
  rcases idxI_spec (hasKey key) xs with ⟨_, h2⟩ | ⟨i, x, h1, h2, h4, _⟩
  · by_cases hm : most ≤ (xs.length : Int)
    · rcases idxI_spec isFree xs with ⟨_, k2⟩ | ⟨i, x, k1, k2, k4, _⟩
      · exact .inl ⟨(), useM_full h2 hm k2, rfl⟩
      · exact .inr (.inr (.inr ⟨i, x, h2, hm, k1, k2, k4, useM_gone h2 hm k1 k2 k4⟩))
    · exact .inr (.inr (.inl ⟨h2, by omega, useM_room h2 (by omega)⟩))
  · by_cases hu : 6 ≤ x.uses
    · exact .inl ⟨(), useM_busy h1 h2 h4 hu, rfl⟩
    · exact .inr (.inl ⟨i, x, h1, h2, h4, by omega, useM_again h1 h2 h4 (by omega)⟩)

theorem useM_ok (most : Int) {xs : List Hs} (key : ByteArray) (h : HsOk xs) : HsOk (useM most xs key).2.2 := by
  rcases useM_cases most xs key with ⟨_, e, _⟩ | ⟨i, x, h1, _, _, h4, e⟩ | ⟨_, _, e⟩ | ⟨i, x, _, _, _, _, _, e⟩
  · rw [e]; exact h
  · rw [e]; have := h x (List.mem_of_getElem? h1); exact ok_snoc (ok_erase h i) _ (by simp; omega) (by simp; omega)
  · rw [e]; exact ok_snoc h _ (by simp) (by simp)
  · rw [e]; exact ok_snoc (ok_erase h i) _ (by simp) (by simp)

theorem useM_len (most : Int) (xs : List Hs) (key : ByteArray) : (useM most xs key).2.2.length ≤ xs.length + 1 := by
  rcases useM_cases most xs key with ⟨_, e, _⟩ | ⟨i, x, h1, _, _, h4, e⟩ | ⟨_, _, e⟩ | ⟨i, x, _, _, _, _, _, e⟩
  · rw [e]; simp
  · rw [e]; have := List.length_eraseIdx_le xs i; simp; omega
  · rw [e]; simp
  · rw [e]; have := List.length_eraseIdx_le xs i; simp; omega

theorem freeM_cases (xs : List Hs) (key : ByteArray) :
    ((∀ x ∈ xs, hasKey key x = false) ∧ freeM xs key = (11, xs)) ∨ (∃ i x, xs[i]? = some x ∧ hasKey key x = true ∧ (∀ (j : Nat) y, j < i → xs[j]? = some y → hasKey key y = false) ∧
      ((x.uses = 0 ∧ freeM xs key = (12, xs)) ∨ (x.uses ≠ 0 ∧ freeM xs key = (0, xs.set i ⟨x.key, x.uses - 1⟩)))) := by
  rcases idxI_spec (hasKey key) xs with ⟨_, h2⟩ | ⟨i, x, h1, h2, h4, _⟩
  · exact .inl ⟨h2, by unfold freeM; rw [findIdx_none h2]⟩
  · have hr : freeM xs key = if x.uses = 0 then (12, xs) else (0, xs.set i ⟨x.key, x.uses - 1⟩) := by unfold freeM; rw [findIdx_at h1 h2 h4]; simp only [h1]
    by_cases hu : x.uses = 0
    · exact .inr ⟨i, x, h1, h2, h4, .inl ⟨hu, by rw [hr, if_pos hu]⟩⟩
    · exact .inr ⟨i, x, h1, h2, h4, .inr ⟨hu, by rw [hr, if_neg hu]⟩⟩

theorem freeM_ok {xs : List Hs} (key : ByteArray) (h : HsOk xs) : HsOk (freeM xs key).2 := by
  rcases freeM_cases xs key with ⟨_, e⟩ | ⟨i, x, h1, _, _, ⟨_, e⟩ | ⟨hu, e⟩⟩
  · rw [e]; exact h
  · rw [e]; exact h
  · rw [e]; have := h x (List.mem_of_getElem? h1); exact ok_set h _ _ (by simp; omega) (by simp; omega)

theorem freeM_len (xs : List Hs) (key : ByteArray) : (freeM xs key).2.length = xs.length := by
  rcases freeM_cases xs key with ⟨_, e⟩ | ⟨i, x, h1, _, _, ⟨_, e⟩ | ⟨hu, e⟩⟩ <;> rw [e]
  simp

theorem ok_nil : HsOk [] := fun x hx => by simp at hx

def lA1 : List Hs := [⟨⟨#[97]⟩, 1⟩]
def lA0 : List Hs := [⟨⟨#[97]⟩, 0⟩]
def lB1 : List Hs := [⟨⟨#[98]⟩, 1⟩]

set_option maxHeartbeats 1600000 in
theorem awakeH_any (w : World) : Calls Try.prog 12 #[] w fun e w' => e = .returned (.bool true) ∧ Ext [] w w' := by
  have u1 : useM 1 [] ⟨#[97]⟩ = (⟨#[]⟩, 0, lA1) := rfl
  have u2 : useM 1 lA1 ⟨#[98]⟩ = (⟨#[]⟩, 10, lA1) := by kernel_rfl
  have u3 : freeM lA1 ⟨#[97]⟩ = (0, lA0) := by kernel_rfl
  have u4 : useM 1 lA0 ⟨#[98]⟩ = (⟨#[97]⟩, 0, lB1) := by kernel_rfl
  have u5 : usedM lB1 ⟨#[98]⟩ = 1 := by decide +kernel
  have u6 : lB1.any (hasKey ⟨#[97]⟩) = false := by decide +kernel
  have ok1 : HsOk lA1 := by intro x hx; simp [lA1] at hx; subst hx; simp
  have ok0 : HsOk lA0 := by intro x hx; simp [lA0] at hx; subst hx; simp
  have hc : clampH 1 = 1 := by decide
  have c1 := fun b S w h => to_use 1 b S [] ⟨#[97]⟩ (by simp) w h ok_nil
  have c2 := fun b S w h => to_use 1 b S lA1 ⟨#[98]⟩ (by simp [lA1]) w h ok1
  have c3 := fun b S w h => to_free 1 b S lA1 ⟨#[97]⟩ (by simp [lA1]) w h ok1
  have c4 := fun b S w h => to_use 1 b S lA0 ⟨#[98]⟩ (by simp [lA0]) w h ok0
  have c5 := fun b S w h => to_used 1 b S lB1 ⟨#[98]⟩ (by simp [lB1]) w h
  have c6 := fun b S w h => to_has 1 b S lB1 ⟨#[97]⟩ (by simp [lB1]) w h
  rw [u1] at c1; rw [u2] at c2; rw [u3] at c3; rw [u4] at c4; rw [u5] at c5; rw [u6] at c6
  have C1 := Lib.hid c1; have C2 := Lib.hid c2; have C3 := Lib.hid c3; have C4 := Lib.hid c4; have C5 := Lib.hid c5; have C6 := Lib.hid c6
  clear u1 u2 u3 u4 u5 u6 c1 c2 c3 c4 c5 c6 ok1 ok0
  go_enter Try.func12, Try.ntmps12
  go_wp2_with fail
  refine (to_new 1 w).mono ?_
  rintro e w1 ⟨rfl, h1, e1⟩
  rw [hc] at h1
  have o1 := Own.start e1 (S := [w.heap.size]) (by simp)
  obtain ⟨b, hb⟩ : ∃ b, w.heap.size = b := ⟨_, rfl⟩
  rw [hb] at h1 o1
  clear hc e1
  go_wp2_with fail
  refine (C1.out b _ w1 h1).mono ?_
  rintro e w2 ⟨rfl, S2, h2, e2, k2⟩
  have o2 := o1.step e2 k2
  clear e2 k2
  go_wp2_with fail
  refine (C2.out b _ w2 h2).mono ?_
  rintro e w3 ⟨rfl, S3, h3, e3, k3⟩
  have o3 := o2.step e3 k3
  clear e3 k3
  go_wp2_with fail
  refine (C3.out b _ w3 h3).mono ?_
  rintro e w4 ⟨rfl, h4, e4⟩
  have o4 := o3.same e4
  clear e4
  go_wp2_with fail
  refine (C4.out b _ w4 h4).mono ?_
  rintro e w5 ⟨rfl, S5, h5, e5, k5⟩
  have o5 := o4.step e5 k5
  clear e5 k5
  go_wp2_with fail
  refine (C5.out b _ w5 h5).mono ?_
  rintro e w6 ⟨rfl, e6⟩
  have o6 := o5.quiet e6
  go_wp2_with fail
  refine (C6.out b _ w6 (h5.keep0 e6)).mono ?_
  rintro e w7 ⟨rfl, e7⟩
  have o7 := o6.quiet e7
  go_wp2_with fail
  go_ret
  exact ⟨rfl, o7.ext⟩
end Go.Proofs.Ytmmhpjodnceipaa
