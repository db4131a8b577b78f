/- The law MethodSizes as a walk. -/
import Derived.Test.YtjmjnahihkhonaaLaws
import Derived.Test.YtjmjnahihkhonaaText
namespace Go.Proofs.Ytjmjnahihkhonaa
open Go.RowKit

theorem lowL_x (m : Nat) : lowL (strOfNums (List.replicate m 120)) = List.replicate m 120 := by
  unfold lowL
  rw [strOfNums_data, List.map_replicate, List.map_replicate]
  rfl

theorem check_x (m : Nat) : checkS (strOfNums (List.replicate m 120)) = if 1 ≤ m ∧ m ≤ 32 then 0 else 5 := by
  have hsz : (strOfNums (List.replicate m 120)).size = m := by rw [strOfNums_size, List.length_replicate]
  unfold checkS
  rw [tokS_eq, barsS_eq, lowL_x, hsz]
  have hb : br (List.replicate m 120) = false := by
    unfold br
    cases m with
    | zero => decide +kernel
    | succ m =>
      have e0 : lowL b0 = 99 :: [111, 110, 110, 101, 99, 116] := by decide +kernel
      have e1 : lowL b1 = 116 :: [114, 97, 99, 101] := by decide +kernel
      have e2 : lowL b2 = 116 :: [114, 97, 99, 107] := by decide +kernel
      rw [e0, e1, e2, List.replicate_succ]
      simp
  have ht : tk (List.replicate m 120) = decide (1 ≤ m) := by
    unfold tk
    cases m with
    | zero => rfl
    | succ m =>
      have h1 : (List.replicate (m + 1) (120 : UInt8)).all (fun b => tokN (b.toNat : Int)) = true := by
        rw [List.all_eq_true]
        intro b hb
        rw [List.eq_of_mem_replicate hb]
        decide +kernel
      rw [h1]
      simp [List.replicate_succ]
  rw [hb, ht]
  by_cases h1 : 1 ≤ m <;> by_cases h2 : m ≤ 32 <;> simp [h1, h2] <;> omega

set_option maxHeartbeats 1600000 in
theorem methodSizes_walk (w : World) (n : Int) (_hn : (Lit.int .i64 n).wf = true) :
    Calls Try.prog 6 #[.int .i64 n] w fun e w' => e = .returned (.bool true) ∧ Ext [] w w' := by
  have hb := lowI_bd n 70 (by omega)
  obtain ⟨m, hm⟩ : ∃ m : Nat, lowI n 70 = m := ⟨(lowI n 70).toNat, by omega⟩
  have hm70 : m < 70 := by omega
  have hc := check_x m
  have cL : ∀ w, Calls Try.prog 18 #[.int .i64 n, .int .i64 70] w fun e w' => e = .returned (.int .i64 m) ∧ w = w' := by
    intro w
    rw [← hm]; exact low_any n 70 (by omega) (by omega) w
  have hsz : (strOfNums (List.replicate m 120)).size ≤ 140737488351232 := by rw [strOfNums_size, List.length_replicate]; omega
  have cT := fun w => text_any m (by omega) 120 w
  have cC := fun w => check_any _ hsz w
  rw [hc] at cC
  have CL := Lib.hid cL; have CT := Lib.hid cT; have CC := Lib.hid cC
  clear cL cT cC hm hb hc hsz
  by_cases h1 : 1 ≤ m
  · have d1 : decide (1 ≤ m) = true := decide_eq_true h1
    have g1 : (1 : Int) ≤ (m : Int) := by omega
    by_cases h2 : m ≤ 32
    · have g2 : (m : Int) ≤ 32 := by omega
      rw [if_pos ⟨h1, h2⟩] at CC
      go_enter Try.func6, Try.ntmps6
      go_wp2_with (first | (go_at_call 18; refine (CL.out _).mono ?_; rintro e w1 ⟨rfl, rfl⟩) | (go_at_call 19; refine (CT.out _).mono ?_; rintro e w2 ⟨rfl, x2⟩) | (go_at_call 13; refine (CC.out _).mono ?_; rintro e w3 ⟨rfl, x3⟩) | (go_at_call 8; refine (mawake_any _).mono ?_; rintro e w4 ⟨rfl, x4⟩))
      go_ret
      exact ⟨rfl, (x2.trans x3 (by simp)).trans x4 (by simp)⟩
    · have g2 : ¬ (m : Int) ≤ 32 := by omega
      have d2 : decide ((m : Int) ≤ 32) = false := decide_eq_false g2
      rw [if_neg (by omega)] at CC
      go_enter Try.func6, Try.ntmps6
      go_wp2_with (first | (go_at_call 18; refine (CL.out _).mono ?_; rintro e w1 ⟨rfl, rfl⟩) | (go_at_call 19; refine (CT.out _).mono ?_; rintro e w2 ⟨rfl, x2⟩) | (go_at_call 13; refine (CC.out _).mono ?_; rintro e w3 ⟨rfl, x3⟩) | (go_at_call 8; refine (mawake_any _).mono ?_; rintro e w4 ⟨rfl, x4⟩))
      go_ret
      exact ⟨rfl, (x2.trans x3 (by simp)).trans x4 (by simp)⟩
  · obtain rfl : m = 0 := by omega
    rw [if_neg (by omega)] at CC
    go_enter Try.func6, Try.ntmps6
    go_wp2_with fail
    refine (CL.out _).mono ?_
    rintro e w1 ⟨rfl, rfl⟩
    go_wp2_with fail
    refine (CT.out _).mono ?_
    rintro e w2 ⟨rfl, x2⟩
    go_wp2_with fail
    refine (CC.out _).mono ?_
    rintro e w3 ⟨rfl, x3⟩
    go_wp2_with fail
    refine (mawake_any _).mono ?_
    rintro e w4 ⟨rfl, x4⟩
    go_wp2
    go_ret
    exact ⟨rfl, (x2.trans x3 (by simp)).trans x4 (by simp)⟩
end Go.Proofs.Ytjmjnahihkhonaa
