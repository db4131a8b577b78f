/- What the chapter of signals tells by example. -/
import Derived.Test.YtmmhpjodnceipaaSgO
namespace Go.Proofs.Ytmmhpjodnceipaa
open Go.RowKit
set_option linter.unusedVariables false
set_option linter.unusedSimpArgs false

theorem SrcI.nil (w : World) : SrcI w (.slice none 0 0) [] := .inl ⟨none, 0, rfl, fun _ => rfl, rfl⟩
theorem RI.new1 (w : World) (z : Int) : RI (w.alloc (.cells #[.int .i64 z] 3 (0, 0))) (.slice (some ⟨w.heap.size, 0, none⟩) 1 1) [z] :=
  ⟨rfl, .inr ⟨w.heap.size, 1, #[.int .i64 z], rfl, Nat.zero_le _, Blk.new w _ _, Nat.le_refl _, by unfold maxLen; decide, rfl, rfl⟩⟩
theorem RI.new2 (w : World) (z y : Int) : RI (w.alloc (.cells #[.int .i64 z, .int .i64 y] 3 (0, 0))) (.slice (some ⟨w.heap.size, 0, none⟩) 2 2) [z, y] :=
  ⟨rfl, .inr ⟨w.heap.size, 2, #[.int .i64 z, .int .i64 y], rfl, Nat.zero_le _, Blk.new w _ _, Nat.le_refl _, by unfold maxLen; decide, rfl, rfl⟩⟩

def M1 : List Sm := [⟨[], false⟩]
def M2 : List Sm := [⟨[], false⟩, ⟨[1], false⟩]
def M3 : List Sm := [⟨[], false⟩, ⟨[1], false⟩, ⟨[], false⟩]
def M4 : List Sm := [⟨[], false⟩, ⟨[1], false⟩, ⟨[], false⟩, ⟨[2, 3], false⟩]
def M5 : List Sm := [⟨[], false⟩, ⟨[1], true⟩, ⟨[], false⟩, ⟨[2, 3], true⟩]
def M6 : List Sm := [⟨[], true⟩, ⟨[1], true⟩, ⟨[], false⟩, ⟨[2, 3], true⟩]

set_option maxHeartbeats 3200000 in
set_option maxRecDepth 100000 in
theorem awakeS_any (w : World) : Calls Try.prog 20 #[] w fun e w' => e = .returned (.bool true) ∧ Ext [] w w' := by
  have k1 : mkS [] [] = 0 := by kernel_rfl
  have k2 : mkS M1 [1] = 0 := by kernel_rfl
  have k3 : mkS M2 [] = 0 := by kernel_rfl
  have k4 : mkS M3 [2, 3] = 0 := by kernel_rfl
  have k5 : abS M4 2 = (0, [2, 4], M5) := by kernel_rfl
  have k6 : abS M5 1 = (0, [1], M6) := by kernel_rfl
  have l1 : mkL [] [] = M1 := by unfold mkL; rw [if_pos k1]; rfl
  have l2 : mkL M1 [1] = M2 := by unfold mkL; rw [if_pos k2]; rfl
  have l3 : mkL M2 [] = M3 := by unfold mkL; rw [if_pos k3]; rfl
  have l4 : mkL M3 [2, 3] = M4 := by unfold mkL; rw [if_pos k4]; rfl
  have u4 : UpOk M4 := by intro s hs; simp [M4] at hs; rcases hs with rfl | rfl | rfl | rfl <;> simp
  have u5 : UpOk M5 := by intro s hs; simp [M5] at hs; rcases hs with rfl | rfl | rfl | rfl <;> simp
  have c1 := fun b S w h => so_make b S [] (.slice none 0 0) [] (by simp) (by simp) w h (SrcI.nil w)
  have c2 := fun b S w sv h hs => so_make b S M1 sv [1] (by simp [M1]) (by simp) w h hs
  have c3 := fun b S w h => so_make b S M2 (.slice none 0 0) [] (by simp [M2]) (by simp) w h (SrcI.nil w)
  have c4 := fun b S w sv h hs => so_make b S M3 sv [2, 3] (by simp [M3]) (by simp) w h hs
  have c5 := fun b S w h => so_abort b S M4 2 (by simp [M4]) u4 w h
  have c6 := fun b S w h => so_abort b S M5 1 (by simp [M5]) u5 w h
  rw [k1, l1, if_pos rfl] at c1; rw [k2, l2, if_pos rfl] at c2; rw [k3, l3, if_pos rfl] at c3; rw [k4, l4, if_pos rfl] at c4
  unfold AbP at c5 c6
  rw [k5] at c5; rw [k6] at c6
  have C1 := Lib.hid c1; have C2 := Lib.hid c2; have C3 := Lib.hid c3; have C4 := Lib.hid c4; have C5 := Lib.hid c5; have C6 := Lib.hid c6
  clear k1 k2 k3 k4 k5 k6 l1 l2 l3 l4 u4 u5 c1 c2 c3 c4 c5 c6
  go_enter Try.func20, Try.ntmps20
  go_wp2_with fail
  refine (so_new w).mono ?_
  rintro e w1 ⟨rfl, h1, e1⟩
  have o1 := Own.start e1 (S := [w.heap.size]) (by simp)
  obtain ⟨b, hb⟩ : ∃ b, w.heap.size = b := ⟨_, rfl⟩
  rw [hb] at h1 o1
  clear e1
  go_wp2_with fail
  refine (C1.out b _ w1 h1).mono ?_
  rintro e w2 ⟨rfl, S2, h2, e2, k2⟩
  have o2 := o1.step e2 k2
  clear e2 k2
  go_wp2_with fail
  refine (C2.out b _ _ _ (h2.keep0 ((Ext.refl [] w2).alloc _)) (RI.new1 w2 1).srcI).mono ?_
  rintro e w3 ⟨rfl, S3, h3, e3, k3⟩
  have o3 := (o2.quiet ((Ext.refl [] w2).alloc _)).step e3 k3
  clear e3 k3
  go_wp2_with fail
  refine (C3.out b _ w3 h3).mono ?_
  rintro e w4 ⟨rfl, S4, h4, e4, k4⟩
  have o4 := o3.step e4 k4
  clear e4 k4
  go_wp2_with fail
  refine (C4.out b _ _ _ (h4.keep0 ((Ext.refl [] w4).alloc _)) (RI.new2 w4 2 3).srcI).mono ?_
  rintro e w5 ⟨rfl, S5, h5, e5, k5⟩
  have o5 := (o4.quiet ((Ext.refl [] w4).alloc _)).step e5 k5
  clear e5 k5
  go_wp2_with fail
  refine (C5.out b _ w5 h5).mono ?_
  rintro e w6 ⟨a6, c6, rfl, r6, f6, h6, e6⟩
  have o6 := o5.same e6
  have n6 : ∀ x ∈ S5, ∀ g, (Value.slice a6 [(2 : Int), 4].length c6).ownBlock = some g → g ≠ x := fun x hx g hg => by have := f6 g hg; have := h5.lt x hx; omega
  clear e6
  go_wp2_with fail
  refine (C6.out b _ w6 h6).mono ?_
  rintro e w7 ⟨a7, c7, rfl, r7, f7, h7, e7⟩
  have o7 := o6.same e7
  have r67 := r6.keep e7 (fun g hg hm => n6 g hm g hg rfl)
  clear e7 n6
  have i1 := ints_any _ _ _ _ (by simp) (by simp) _ (r67.alloc (.cells #[.int .i64 2, .int .i64 4] 3 (0, 0))) (RI.new2 w7 2 4)
  rw [decide_eq_true (rfl : ([2, 4] : List Int) = [2, 4])] at i1
  have I1 := Lib.hid i1; have R7 := Lib.hid r7
  clear i1 r6 r67 r7
  go_wp2_with fail
  refine I1.out.mono ?_
  rintro e w8 ⟨rfl, e8⟩
  have e8 := ((Ext.refl [] w7).alloc _).trans e8 (by simp)
  have o8 := o7.quiet e8
  have i2 := ints_any _ _ _ _ (by simp) (by simp) _ ((R7.out.keep e8 (by simp)).alloc (.cells #[.int .i64 1] 3 (0, 0))) (RI.new1 w8 1)
  rw [decide_eq_true (rfl : ([1] : List Int) = [1])] at i2
  have I2 := Lib.hid i2
  clear i2 R7 I1
  go_wp2_with fail
  refine I2.out.mono ?_
  rintro e w9 ⟨rfl, e9⟩
  have o9 := (o8.quiet ((Ext.refl [] w8).alloc _)).quiet e9
  go_wp2_with fail
  go_ret
  exact ⟨rfl, o9.ext⟩
end Go.Proofs.Ytmmhpjodnceipaa
