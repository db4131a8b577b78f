/- The laws of tick as walks: each call of a law returns true and leaves what was there as it was. -/
import Derived.Test.YtnamodjckniibaaClock
namespace Go.Proofs.Ytnamodjckniibaa
open Go.RowKit

theorem capAdd_1 : capAdd 18446744073709551614 5 = 18446744073709551615 := by decide +kernel
theorem u64_a : U64 18446744073709551614 := by unfold U64; omega
theorem u64_b : U64 5 := by unfold U64; omega

set_option maxHeartbeats 400000 in
theorem tawake_any (w : World) : Calls Try.prog 16 #[] w fun e w' => e = .returned (.bool true) ∧ Ext [] w w' := by
  go_enter Try.func16, Try.ntmps16
  go_wp2_with fail
  refine (new_any _ _).mono ?_
  rintro e w1 ⟨rfl, hw1⟩
  have hk : Clk w1 w.heap.size 18446744073709551614 := by subst hw1; exact Blk.new _ _ _
  have he : Ext [] w w1 := by subst hw1; exact (Ext.refl _ _).alloc _
  clear hw1
  go_wp2_with fail
  refine (now_any _ _ _ hk).mono ?_
  rintro e w2 ⟨rfl, rfl⟩
  go_wp2_with fail
  refine (step_any _ _ _ u64_a u64_b _ hk).mono ?_
  rw [capAdd_1]
  rintro e w3 ⟨rfl, hk3, he3⟩
  go_wp2_with fail
  refine (now_any _ _ _ hk3).mono ?_
  rintro e w4 ⟨rfl, rfl⟩
  go_wp2_with fail
  refine (past_any _ _ 7 _ hk3).mono ?_
  rintro e w4 ⟨rfl, rfl⟩
  go_wp2
  go_ret
  exact ⟨rfl, he.trans he3 (by simp)⟩

/-- What is left. -/
def leftOf (a b : Int) : Int := if b ≤ a then 0 else b - a

theorem leftOf_u64 {a b : Int} (ha : U64 a) (hb : U64 b) : U64 (leftOf a b) := by
  obtain ⟨_, _⟩ := ha; obtain ⟨_, _⟩ := hb
  unfold leftOf U64; split <;> omega

set_option maxHeartbeats 400000 in
theorem left_any (a b : Int) (ha : U64 a) (hb : U64 b) (w : World) :
    Calls Try.prog 26 #[.int .u64 a, .int .u64 b] w fun e w' => e = .returned (.int .u64 (leftOf a b)) ∧ w = w' := by
  obtain ⟨a0, a1⟩ := ha; obtain ⟨b0, b1⟩ := hb
  unfold leftOf
  by_cases h : b ≤ a
  · rw [if_pos h]
    go_enter Try.func26, Try.ntmps26
    go_wp2
    go_ret
    exact ⟨rfl, rfl⟩
  · rw [if_neg h]
    have e2 := u64_w (x := b - a) (by omega) (by omega)
    have h' : a < b := by omega
    go_enter Try.func26, Try.ntmps26
    go_wp2
    go_ret
    exact ⟨rfl, rfl⟩

set_option maxHeartbeats 400000 in
theorem rleft_any (a b : Int) (ha : U64 a) (hb : U64 b) (w : World) :
    Calls Try.prog 27 #[.int .u64 a, .int .u64 b] w fun e w' => e = .returned (.int .u64 (leftOf a b)) ∧ w = w' := by
  obtain ⟨a0, a1⟩ := ha; obtain ⟨b0, b1⟩ := hb
  unfold leftOf
  by_cases h : b ≤ a
  · rw [if_pos h]
    go_enter Try.func27, Try.ntmps27
    go_wp2
    go_ret
    exact ⟨rfl, rfl⟩
  · rw [if_neg h]
    have e2 := u64_w (x := b - a) (by omega) (by omega)
    have h' : a < b := by omega
    go_enter Try.func27, Try.ntmps27
    go_wp2
    go_ret
    exact ⟨rfl, rfl⟩

set_option maxHeartbeats 400000 in
theorem radd_any (a b : Int) (ha : U64 a) (hb : U64 b) (w : World) :
    Calls Try.prog 18 #[.int .u64 a, .int .u64 b] w fun e w' => e = .returned (.int .u64 (capAdd a b)) ∧ w = w' := by
  obtain ⟨a0, a1⟩ := ha; obtain ⟨b0, b1⟩ := hb
  have e1 := u64_w (x := 18446744073709551615 - a) (by omega) (by omega)
  unfold capAdd
  by_cases h : 18446744073709551615 - a < b
  · rw [if_pos h]
    go_enter Try.func18, Try.ntmps18
    go_wp2
    go_ret
    exact ⟨rfl, rfl⟩
  · rw [if_neg h]
    have e2 := u64_w (x := a + b) (by omega) (by omega)
    have h' : b ≤ 18446744073709551615 - a := by omega
    go_enter Try.func18, Try.ntmps18
    go_wp2
    go_ret
    exact ⟨rfl, rfl⟩

theorem capAdd_comm (a b : Int) : capAdd a b = capAdd b a := by unfold capAdd; split <;> split <;> omega
theorem capAdd_assoc (a b c : Int) (ha : U64 a) (hb : U64 b) (hc : U64 c) : capAdd (capAdd a b) c = capAdd a (capAdd b c) := by
  obtain ⟨_, _⟩ := ha; obtain ⟨_, _⟩ := hb; obtain ⟨_, _⟩ := hc
  unfold capAdd; repeat' split
  all_goals omega
theorem capAdd_ge (a b : Int) (ha : U64 a) (hb : U64 b) : a ≤ capAdd a b := by
  obtain ⟨_, _⟩ := ha; obtain ⟨_, _⟩ := hb
  unfold capAdd; split <;> omega
theorem capAdd_zero (a : Int) (ha : U64 a) : capAdd a 0 = a := by
  obtain ⟨_, _⟩ := ha
  unfold capAdd; split <;> omega
theorem capAdd_max (a : Int) (ha : U64 a) : capAdd a 18446744073709551615 = 18446744073709551615 := by
  obtain ⟨_, _⟩ := ha
  unfold capAdd; split <;> omega
theorem u64_0 : U64 0 := by unfold U64; omega
theorem u64_max : U64 18446744073709551615 := by unfold U64; omega

set_option maxHeartbeats 800000 in
theorem tickSums_any (a b c : Int) (ha : U64 a) (hb : U64 b) (hc : U64 c) (w : World) :
    Calls Try.prog 6 #[.int .u64 a, .int .u64 b, .int .u64 c] w fun e w' => e = .returned (.bool true) ∧ Ext [] w w' := by
  have e1 := Lib.hid (capAdd_comm b a)
  have e2 := Lib.hid (capAdd_assoc a b c ha hb hc)
  have e3 := capAdd_ge a b ha hb
  have e4 := Lib.hid (capAdd_zero a ha)
  have e5 := Lib.hid (capAdd_max a ha)
  have hab := capAdd_u64 ha hb
  have hbc := capAdd_u64 hb hc
  go_enter Try.func6, Try.ntmps6
  go_wp2_with fail
  refine (add_any a b ha hb _).mono ?_
  rintro e w1 ⟨rfl, rfl⟩
  go_wp2_with fail
  refine (add_any b a hb ha _).mono ?_
  rw [e1.out]
  rintro e w1 ⟨rfl, rfl⟩
  go_wp2_with fail
  refine (add_any a b ha hb _).mono ?_
  rintro e w1 ⟨rfl, rfl⟩
  go_wp2_with fail
  refine (add_any _ c hab hc _).mono ?_
  rw [e2.out]
  rintro e w1 ⟨rfl, rfl⟩
  go_wp2_with fail
  refine (add_any b c hb hc _).mono ?_
  rintro e w1 ⟨rfl, rfl⟩
  go_wp2_with fail
  refine (add_any a _ ha hbc _).mono ?_
  rintro e w1 ⟨rfl, rfl⟩
  go_wp2_with fail
  refine (add_any a b ha hb _).mono ?_
  rintro e w1 ⟨rfl, rfl⟩
  go_wp2_with fail
  refine (add_any a 0 ha u64_0 _).mono ?_
  rw [e4.out]
  rintro e w1 ⟨rfl, rfl⟩
  go_wp2_with fail
  refine (add_any a _ ha u64_max _).mono ?_
  rw [e5.out]
  rintro e w1 ⟨rfl, rfl⟩
  go_wp2_with fail
  refine (tawake_any _).mono ?_
  rintro e w1 ⟨rfl, he⟩
  go_wp2
  go_ret
  exact ⟨rfl, he⟩

set_option maxHeartbeats 800000 in
theorem tickTwo_any (a b n : Int) (ha : U64 a) (hn : U64 n) (w : World) :
    Calls Try.prog 7 #[.int .u64 a, .int .u64 b, .int .u64 n] w fun e w' => e = .returned (.bool true) ∧ Ext [] w w' := by
  go_enter Try.func7, Try.ntmps7
  go_wp2_with fail
  refine (new_any _ _).mono ?_
  rintro e w1 ⟨rfl, hw1⟩
  have hk : Clk w1 w.heap.size a := by subst hw1; exact Blk.new _ _ _
  have he : Ext [] w w1 := by subst hw1; exact (Ext.refl _ _).alloc _
  have hlt := Blk.lt hk
  clear hw1
  go_wp2_with fail
  refine (new_any _ _).mono ?_
  rintro e w2 ⟨rfl, hw2⟩
  have hk2 : Clk w2 w1.heap.size b := by subst hw2; exact Blk.new _ _ _
  have hka : Clk w2 w.heap.size a := by subst hw2; exact Blk.alloc hk _
  have he2 : Ext [] w w2 := by subst hw2; exact he.alloc _
  clear hw2 hk he
  go_wp2_with fail
  refine (step_any _ _ _ ha hn _ hka).mono ?_
  rintro e w3 ⟨rfl, hk3, he3⟩
  have hk4 : Clk w3 w1.heap.size b := Blk.keep hk2 he3 (by simp; omega)
  have he4 : Ext [] w w3 := he2.trans he3 (by simp)
  clear hk2 hka he2 he3
  go_wp2_with fail
  refine (now_any _ _ _ hk4).mono ?_
  rintro e w4 ⟨rfl, rfl⟩
  go_wp2_with fail
  refine (now_any _ _ _ hk3).mono ?_
  rintro e w4 ⟨rfl, rfl⟩
  go_wp2_with fail
  refine (add_any a n ha hn _).mono ?_
  rintro e w1 ⟨rfl, rfl⟩
  go_wp2_with fail
  refine (tawake_any _).mono ?_
  rintro e w1 ⟨rfl, he5⟩
  go_wp2
  go_ret
  exact ⟨rfl, he4.trans he5 (by simp)⟩

theorem left_back (a b : Int) (ha : U64 a) (hb : U64 b) : capAdd a (leftOf a b) = if a < b then b else a := by
  obtain ⟨_, _⟩ := ha; obtain ⟨_, _⟩ := hb
  unfold capAdd leftOf; repeat' split
  all_goals omega
theorem left_zero (a b : Int) : (leftOf a b == 0) = decide (b ≤ a) := by
  unfold leftOf; split
  · simp [*]
  · rw [decide_eq_false (by omega)]; simp; omega
theorem left_self (a : Int) : leftOf a a = 0 := by simp [leftOf]

set_option maxHeartbeats 800000 in
theorem tickLefts_any (a b : Int) (ha : U64 a) (hb : U64 b) (w : World) :
    Calls Try.prog 11 #[.int .u64 a, .int .u64 b] w fun e w' => e = .returned (.bool true) ∧ Ext [] w w' := by
  have e1 := left_back a b ha hb
  have e2 := left_zero a b
  have e3 := Lib.hid (left_self a)
  have hl := leftOf_u64 ha hb
  by_cases h : a < b
  · rw [if_pos h] at e1
    have E1 := Lib.hid e1
    clear e1
    have hd : decide (b ≤ a) = false := decide_eq_false (by omega)
    rw [hd] at e2
    go_enter Try.func11, Try.ntmps11
    go_wp2_with fail
    refine (left_any a b ha hb _).mono ?_
    rintro e w1 ⟨rfl, rfl⟩
    go_wp2_with fail
    refine (add_any a _ ha hl _).mono ?_
    rw [E1.out]
    rintro e w1 ⟨rfl, rfl⟩
    go_wp2_with fail
    refine (left_any a b ha hb _).mono ?_
    rintro e w1 ⟨rfl, rfl⟩
    go_wp2_with fail
    refine (left_any a a ha ha _).mono ?_
    rw [e3.out]
    rintro e w1 ⟨rfl, rfl⟩
    go_wp2_with fail
    refine (tawake_any _).mono ?_
    rintro e w1 ⟨rfl, he⟩
    go_wp2
    go_ret
    exact ⟨rfl, he⟩
  · rw [if_neg h] at e1
    have E1 := Lib.hid e1
    clear e1
    have h' : b ≤ a := by omega
    rw [decide_eq_true h'] at e2
    go_enter Try.func11, Try.ntmps11
    go_wp2_with fail
    refine (left_any a b ha hb _).mono ?_
    rintro e w1 ⟨rfl, rfl⟩
    go_wp2_with fail
    refine (add_any a _ ha hl _).mono ?_
    rw [E1.out]
    rintro e w1 ⟨rfl, rfl⟩
    go_wp2_with fail
    refine (left_any a b ha hb _).mono ?_
    rintro e w1 ⟨rfl, rfl⟩
    go_wp2_with fail
    refine (left_any a a ha ha _).mono ?_
    rw [e3.out]
    rintro e w1 ⟨rfl, rfl⟩
    go_wp2_with fail
    refine (tawake_any _).mono ?_
    rintro e w1 ⟨rfl, he⟩
    go_wp2
    go_ret
    exact ⟨rfl, he⟩

set_option maxHeartbeats 800000 in
theorem tickAll_any (a b : Int) (ha : U64 a) (hb : U64 b) (w : World) :
    Calls Try.prog 10 #[.int .u64 a, .int .u64 b] w fun e w' => e = .returned (.bool true) ∧ Ext [] w w' := by
  go_enter Try.func10, Try.ntmps10
  go_wp2_with (first | (go_at_call 13; refine (add_any a b ha hb _).mono ?_; rintro e w' ⟨rfl, rfl⟩) | (go_at_call 18; refine (radd_any a b ha hb _).mono ?_; rintro e w' ⟨rfl, rfl⟩) | (go_at_call 26; refine (left_any a b ha hb _).mono ?_; rintro e w' ⟨rfl, rfl⟩) | (go_at_call 27; refine (rleft_any a b ha hb _).mono ?_; rintro e w' ⟨rfl, rfl⟩))
  refine (tawake_any _).mono ?_
  rintro e w1 ⟨rfl, he⟩
  go_wp2
  go_ret
  exact ⟨rfl, he⟩
end Go.Proofs.Ytnamodjckniibaa
