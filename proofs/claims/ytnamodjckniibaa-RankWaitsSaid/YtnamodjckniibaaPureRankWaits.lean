/- Proved: at its wait (rank.Wait) a class has the level 1, a tick ahead of it the level 2; a class of 1 or less waits for nothing; for every input. -/
import Derived.Test.YtnamodjckniibaaPRankWaitsx1
namespace Go.Proofs.Ytnamodjckniibaa.Pure
open Go.RowKit Go.Proofs.Ytnamodjckniibaa.PRankWaits Go.Proofs.YtnamodjckniibaaW.PrintWords Go.Proofs.YtnamodjckniibaaW.PrintLast

theorem u64_w {x : Int} (h0 : 0 ≤ x) (h1 : x < 18446744073709551616) : IntKind.u64.wrap x = x := by
  simp [IntKind.wrap, IntKind.bits, IntKind.signed]
  omega

theorem u64_of_wf {a : Int} (h : (Lit.int .u64 a).wf = true) : 0 ≤ a ∧ a < 18446744073709551616 := by
  simp [Lit.wf, IntKind.min, IntKind.max, IntKind.bits, IntKind.signed] at h
  omega

theorem level_eq (c w a : Int) (h0 : 0 ≤ w) (h1 : w < 18446744073709551616) :
    rank_Level.f c w a = some (mx 1 (mx 1 (mn c 6) - mn (w / mx a 1) 6)) := by
  have hm : 1 ≤ mx a 1 := by unfold mx; split <;> omega
  have hd0 : 0 ≤ w / mx a 1 := Int.ediv_nonneg h0 (by omega)
  have hd1 : w / mx a 1 ≤ w := Int.ediv_le_self _ h0
  unfold rank_Level.f rank_cut.f
  simp only [Option.bind_some]
  rw [if_neg (by omega), Int.tdiv_eq_ediv_of_nonneg h0, u64_w hd0 (by omega)]
  have e1 : wrap64 (mn (w / mx a 1) 6) = mn (w / mx a 1) 6 := by
    generalize w / mx a 1 = q at *
    unfold wrap64 mn; split <;> omega
  rw [e1]
  congr 2
  generalize w / mx a 1 = q at *
  unfold wrap64 mn mx; repeat' split
  all_goals omega

/-- A sum, held at the end. -/
def cap (x : Int) : Int := mn x 18446744073709551615

theorem add_eq (a b : Int) (ha : 0 ≤ a) (hb : 0 ≤ b) (ha1 : a < 18446744073709551616) (hb1 : b < 18446744073709551616) : tick_Add.f a b = some (cap (a + b)) := by
  unfold tick_Add.f cap mn
  rw [u64_w (x := 18446744073709551615 - a) (by omega) (by omega)]
  by_cases h : b > 18446744073709551615 - a
  · rw [if_pos h]; split
    · rfl
    · congr 1; omega
  · rw [if_neg h, u64_w (by omega) (by omega), if_neg (by omega)]

theorem wait_l0 (g : Int) (h1 : 1 ≤ mx g 1) (h2 : mx g 1 < 18446744073709551616) (d : Nat) : ∀ (k : Nat) (x n i : Int), 0 ≤ x → x < 18446744073709551616 → 0 ≤ i → n - i = d → n < 10 → d < k →
    rank_Wait.l0 k g x n i = some (cap (x + d * mx g 1)) := by
  induction d with
  | zero =>
    intro k x n i hx0 hx1 hi hd hn hk
    obtain ⟨k, rfl⟩ : ∃ m, k = m + 1 := ⟨k - 1, by omega⟩
    simp only [rank_Wait.l0]
    rw [if_neg (by omega)]
    unfold cap mn
    congr 1; split <;> omega
  | succ d ih =>
    intro k x n i hx0 hx1 hi hd hn hk
    obtain ⟨k, rfl⟩ : ∃ m, k = m + 1 := ⟨k - 1, by omega⟩
    simp only [rank_Wait.l0]
    rw [if_pos (by omega), add_eq x _ hx0 (by omega) hx1 h2]
    simp only [Option.bind_some]
    have hw : wrap64 (i + 1) = i + 1 := by unfold wrap64; omega
    have hc : 0 ≤ cap (x + mx g 1) ∧ cap (x + mx g 1) < 18446744073709551616 := by unfold cap mn; split <;> omega
    rw [hw, ih k (cap (x + mx g 1)) n (i + 1) hc.1 hc.2 (by omega) (by omega) hn (by omega)]
    congr 1
    have hdm : 0 ≤ (d : Int) * mx g 1 := Int.mul_nonneg (by omega) (by omega)
    have hs : ((d + 1 : Nat) : Int) * mx g 1 = d * mx g 1 + mx g 1 := by push_cast; rw [Int.add_mul, Int.one_mul]
    rw [hs]
    generalize (d : Int) * mx g 1 = z at *
    unfold cap mn; repeat' split
    all_goals omega

theorem wait_eq (c a : Int) (a0 : 0 ≤ a) (a1 : a < 18446744073709551616) : rank_Wait.f 10 c a = some (cap ((mx 1 (mn c 6) - 1) * mx a 1)) := by
  have hm : 1 ≤ mx a 1 := by unfold mx; split <;> omega
  have hm1 : mx a 1 < 18446744073709551616 := by unfold mx; split <;> omega
  unfold rank_Wait.f rank_cut.f
  simp only [Option.bind_some]
  have hc : 1 ≤ mx 1 (mn c 6) ∧ mx 1 (mn c 6) ≤ 6 := by unfold mx mn; repeat' split <;> omega
  generalize mx 1 (mn c 6) = q at *
  have hw : wrap64 (q - 1) = q - 1 := by unfold wrap64; omega
  rw [hw, wait_l0 a hm hm1 (q - 1).toNat 10 0 (q - 1) 0 (by omega) (by omega) (by omega) (by omega) (by omega) (by omega)]
  congr 2
  have : (((q - 1).toNat : Nat) : Int) = q - 1 := by omega
  rw [this]; omega

theorem RankWaits : lockkeeperlaw19_RankWaits.Pure := by
  intro c a h0 h1
  have ⟨z0, z1⟩ := u64_of_wf h1
  refine ⟨10, ?_⟩
  have haw : lockkeeperlaw19_awake.f 10 = some true := by decide +kernel
  have hm : 1 ≤ mx a 1 := by unfold mx; split <;> omega
  have hm1 : mx a 1 < 18446744073709551616 := by unfold mx; split <;> omega
  unfold lockkeeperlaw19_RankWaits.f
  rw [wait_eq c a z0 z1, haw]
  simp only [Option.bind_some]
  by_cases hc : c ≤ 1
  · rw [if_pos hc, if_pos]
    have : mx 1 (mn c 6) = 1 := by unfold mx mn; repeat' split <;> omega
    rw [this]; unfold cap mn; split <;> omega
  · rw [if_neg hc]
    by_cases hz : cap ((mx 1 (mn c 6) - 1) * mx a 1) = 18446744073709551615
    · rw [if_pos hz]
    · rw [if_neg hz]
      have hq : 2 ≤ mx 1 (mn c 6) ∧ mx 1 (mn c 6) ≤ 6 := by unfold mx mn; repeat' split <;> omega
      have hv : cap ((mx 1 (mn c 6) - 1) * mx a 1) = (mx 1 (mn c 6) - 1) * mx a 1 := by
        revert hz; generalize (mx 1 (mn c 6) - 1) * mx a 1 = z; unfold cap mn; split <;> omega
      have hlt : (mx 1 (mn c 6) - 1) * mx a 1 < 18446744073709551616 := by
        revert hv; generalize (mx 1 (mn c 6) - 1) * mx a 1 = z; unfold cap mn; split <;> omega
      rw [hv]
      have hpos : mx a 1 ≤ (mx 1 (mn c 6) - 1) * mx a 1 := by
        have := Int.mul_le_mul_of_nonneg_right (show 1 ≤ mx 1 (mn c 6) - 1 by omega) (show 0 ≤ mx a 1 by omega)
        omega
      rw [if_pos (by omega), level_eq _ _ _ (by omega) hlt]
      simp only [Option.bind_some]
      rw [Int.mul_ediv_cancel _ (by omega)]
      rw [if_pos (by generalize mx 1 (mn c 6) = q at *; unfold mx mn; repeat' split <;> omega)]
      rw [u64_w (by omega) (by omega), level_eq _ _ _ (by omega) (by omega)]
      simp only [Option.bind_some]
      have hd : ((mx 1 (mn c 6) - 1) * mx a 1 - 1) / mx a 1 = mx 1 (mn c 6) - 2 := by
        generalize mx 1 (mn c 6) = q at *
        generalize mx a 1 = g at *
        rw [show (q - 1) * g - 1 = (q - 2) * g + (g - 1) by rw [Int.sub_mul, Int.sub_mul]; omega]
        rw [Int.add_comm, Int.add_mul_ediv_right _ _ (by omega), Int.ediv_eq_zero_of_lt (by omega) (by omega)]
        omega
      rw [hd, if_pos]
      generalize mx 1 (mn c 6) = q at *
      unfold mx mn; repeat' split <;> omega

end Go.Proofs.Ytnamodjckniibaa.Pure
