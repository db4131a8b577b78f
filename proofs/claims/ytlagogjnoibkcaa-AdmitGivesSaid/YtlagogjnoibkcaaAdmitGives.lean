/- AdmitGives: its walk. -/
import Derived.Test.YtlagogjnoibkcaaBookO
import Derived.Test.YtlagogjnoibkcaaLow
namespace Go.Proofs.Ytlagogjnoibkcaa
open Go.RowKit
set_option linter.unusedVariables false
set_option linter.unusedSimpArgs false

def g24 (i : Nat) : List Ad := (List.range i).map fun (j : Nat) => ⟨(j : Int) + 1, 5, ⟨#[97]⟩⟩
def l2 : List Ad := g24 24 ++ [⟨100, 5, ⟨#[98]⟩⟩]
theorem g24_take : ∀ i : Nat, i < 24 → takeC (g24 i) ((i : Int) + 1) ⟨#[97]⟩ 5 = 0 := by decide +kernel
theorem g24_book (i : Nat) (h : i < 24) : bookOf (g24 i) ((i : Int) + 1) ⟨#[97]⟩ 5 = g24 (i + 1) := by
  unfold bookOf; rw [if_pos (g24_take i h)]
  unfold g24; rw [List.range_succ, List.map_append]; rfl
theorem g24_len (i : Nat) : (g24 i).length = i := by simp [g24]
theorem t_full : takeC (g24 24) 99 ⟨#[97]⟩ 6 = 10 := by decide +kernel
theorem t_other : takeC (g24 24) 100 ⟨#[98]⟩ 5 = 0 := by decide +kernel
theorem t_any : ∀ k : Nat, k < 24 → l2.any (sameId ((k : Int) + 1)) = true := by decide +kernel
theorem t_gone : ∀ k : Nat, k < 24 → (giveL l2 ((k : Int) + 1)).any (sameId ((k : Int) + 1)) = false := by decide +kernel
theorem t_host : ∀ k : Nat, k < 24 → ((giveL l2 ((k : Int) + 1)).filter (sameKey ⟨#[97]⟩)).length = 23 := by decide +kernel
theorem t_group : ∀ k : Nat, k < 24 → ((giveL l2 ((k : Int) + 1)).filter (sameGroup 5)).length = 24 := by decide +kernel
theorem t_take : ∀ k : Nat, k < 24 → takeC (giveL l2 ((k : Int) + 1)) 99 ⟨#[97]⟩ 6 = 0 := by decide +kernel
theorem t_len : ∀ k : Nat, k < 24 → (giveL l2 ((k : Int) + 1)).length = 24 := by decide +kernel

set_option maxHeartbeats 3200000 in
set_option maxRecDepth 100000 in
theorem admitGives_walk (w : World) (m : Int) (hm : (Lit.int .i64 m).wf = true) :
    Calls Try.prog 5 #[.int .i64 m] w fun e w' => e = .returned (.bool true) ∧ Ext [] w w' := by
  obtain ⟨k, hk, hk1⟩ : ∃ k : Nat, (k : Int) = lowI m 24 ∧ k < 24 := by
    have := lowI_bd m 24 (by omega)
    exact ⟨(lowI m 24).toNat, by omega, by omega⟩
  have hLow := fun w => low_any m 24 (by omega) (by omega) w
  rw [← hk] at hLow
  have HLOW := Lib.hid hLow
  clear hLow hk
  go_enter Try.func5, Try.ntmps5
  go_wp2_with fail
  refine (bo_new w).mono ?_
  rintro e w1 ⟨rfl, h1, e1⟩
  have o1 := Own.start e1 (S := [w.heap.size]) (by simp)
  obtain ⟨b, hb⟩ : ∃ b, w.heap.size = b := ⟨_, rfl⟩
  rw [hb] at h1 o1
  clear e1
  go_wp2_with fail
  go_loopw [4] (fun iv wr => ∃ (j : Nat) (S : List Nat), j ≤ 24 ∧ iv = .int .i64 ((j : Int) + 1) ∧ BO wr b S (g24 j) ∧ Own w wr S) (fun iv _ => 25 - (intOf iv).toNat)
  case atStart => exact ⟨0, _, Nat.zero_le _, rfl, by simpa [g24] using h1, o1⟩
  case round =>
    obtain ⟨j, S, hjk, rfl, hw, ow⟩ := hrel
    by_cases hj : j < 24
    · have d1 : decide ((j : Int) + 1 ≤ 24) = true := decide_eq_true (by omega)
      have hc := bo_take b S (g24 j) ((j : Int) + 1) ⟨#[97]⟩ 5 (by rw [g24_len]; omega) wr hw
      rw [g24_take j hj, g24_book j hj] at hc
      go_wp2_with fail
      refine hc.mono ?_
      rintro e w2 ⟨rfl, S2, h2, e2, k2⟩
      have o2 := ow.step e2 k2
      clear hc e2 k2
      go_wp2_with fail
      exact ⟨⟨j + 1, S2, by omega, rfl, h2, o2⟩, by simp [intOf]; omega⟩
    · have d1 : decide ((j : Int) + 1 ≤ 24) = false := decide_eq_false (by omega)
      obtain rfl : j = 24 := by omega
      go_wp2_with fail
      refine (HLOW.out wr).mono ?_
      rintro e w2 ⟨rfl, rfl⟩
      have c1 := bo_take b S (g24 24) 99 ⟨#[97]⟩ 6 (by rw [g24_len]; omega) wr hw
      rw [t_full, show bookOf (g24 24) 99 ⟨#[97]⟩ 6 = g24 24 from by unfold bookOf; rw [if_neg (by rw [t_full]; decide)]] at c1
      go_wp2_with fail
      refine c1.mono ?_
      rintro e w2 ⟨rfl, S2, h2, e2, k2⟩
      have o2 := ow.step e2 k2
      have c2 := bo_take b S2 (g24 24) 100 ⟨#[98]⟩ 5 (by rw [g24_len]; omega) w2 h2
      rw [t_other, show bookOf (g24 24) 100 ⟨#[98]⟩ 5 = l2 from by unfold bookOf; rw [if_pos t_other]; rfl] at c2
      clear c1 e2 k2
      go_wp2_with fail
      refine c2.mono ?_
      rintro e w3 ⟨rfl, S3, h3, e3, k3⟩
      have o3 := o2.step e3 k3
      have hkk : (1 : Int) + (k : Int) = (k : Int) + 1 := by omega
      have c3 := bo_give b S3 l2 ((k : Int) + 1) (by simp [l2, g24]) w3 h3
      rw [t_any k hk1] at c3
      clear c2 e3 k3
      go_wp2_with fail
      refine c3.mono ?_
      rintro e w4 ⟨rfl, h4, e4⟩
      have o4 := o3.same e4
      have hl := t_len k hk1
      have HL := Lib.hid hl
      have c4 := fun W (hW : Ext [] w4 W) => bo_has b S3 _ ((k : Int) + 1) (by rw [HL.out]; omega) W (h4.keep0 hW)
      have c5 := fun W (hW : Ext [] w4 W) => bo_host b S3 _ ⟨#[97]⟩ (by rw [HL.out]; omega) W (h4.keep0 hW)
      have c6 := fun W (hW : Ext [] w4 W) => bo_group b S3 _ 5 (by rw [HL.out]; omega) W (h4.keep0 hW)
      have c7 := fun W (hW : Ext [] w4 W) => bo_take b S3 _ 99 ⟨#[97]⟩ 6 (by rw [HL.out]; omega) W (h4.keep0 hW)
      have ht := t_take k hk1
      simp only [t_gone k hk1] at c4
      simp only [t_host k hk1] at c5
      simp only [t_group k hk1] at c6
      have hbk : (bookOf (giveL l2 ((k : Int) + 1)) 99 ⟨#[97]⟩ 6).length = 25 := by unfold bookOf; rw [if_pos ht, List.length_append, hl]; rfl
      have HBK := Lib.hid hbk
      rw [ht] at c7
      have C4 := Lib.hid c4; have C5 := Lib.hid c5; have C6 := Lib.hid c6; have C7 := Lib.hid c7
      clear c3 e4 c4 c5 c6 c7 hl ht hbk
      go_wp2_with fail
      refine (C4.out _ (Ext.refl _ _)).mono ?_
      rintro e w5 ⟨rfl, e5⟩
      go_wp2_with fail
      refine (C5.out _ e5).mono ?_
      rintro e w6 ⟨rfl, e6⟩
      have e6 := e5.trans e6 (by simp)
      go_wp2_with fail
      refine (C6.out _ e6).mono ?_
      rintro e w7 ⟨rfl, e7⟩
      have e7 := e6.trans e7 (by simp)
      have o7 := o4.quiet e7
      go_wp2_with fail
      refine (C7.out _ e7).mono ?_
      rintro e w8 ⟨rfl, S8, h8, e8, k8⟩
      have o8 := o7.step e8 k8
      have c8 := bo_live b S8 _ (by rw [HBK.out]; omega) w8 h8
      rw [HBK.out] at c8
      clear e5 e6 e7 e8 k8
      go_wp2_with fail
      refine c8.mono ?_
      rintro e w9 ⟨rfl, e9⟩
      have o9 := o8.quiet e9
      clear c8
      go_wp2_with fail
      refine (awakeA_any _).mono ?_
      rintro e w10 ⟨rfl, e10⟩
      have o10 := o9.quiet e10
      go_wp2_with fail
      go_ret
      exact ⟨rfl, o10.ext⟩
end Go.Proofs.Ytlagogjnoibkcaa
