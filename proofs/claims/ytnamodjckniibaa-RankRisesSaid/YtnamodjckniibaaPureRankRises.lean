/- Proved: rank.Level never rises with waiting nor with a lesser class, lies from 1 to 6, and is the class itself (held from 1 to 6) where nothing was waited; for every input. -/
import Derived.Test.YtnamodjckniibaaPRankRisesx1
namespace Go.Proofs.Ytnamodjckniibaa.Pure
open Go.RowKit Go.Proofs.Ytnamodjckniibaa.PRankRises Go.Proofs.YtnamodjckniibaaW.PrintWords Go.Proofs.YtnamodjckniibaaW.PrintLast

theorem u64_w {x : Int} (h0 : 0 ≤ x) (h1 : x < 18446744073709551616) : IntKind.u64.wrap x = x := by
  simp [IntKind.wrap, IntKind.bits, IntKind.signed]
  omega

theorem u64_of_wf {a : Int} (h : (Lit.int .u64 a).wf = true) : 0 ≤ a ∧ a < 18446744073709551616 := by
  simp [Lit.wf, IntKind.min, IntKind.max, IntKind.bits, IntKind.signed] at h
  omega

theorem level_eq (c w a : Int) (h0 : 0 ≤ w) (h1 : w < 18446744073709551616) :
    rank_Level.f c w a = some (mx 1 (mx 1 (mn c 6) - mn (w / mx a 1) 6)) := by
  have hm : 1 ≤ mx a 1 := by unfold mx; split <;> omega
  have hd0 : 0 ≤ w / mx a 1 := Int.ediv_nonneg h0 (by omega)
  have hd1 : w / mx a 1 ≤ w := Int.ediv_le_self _ h0
  unfold rank_Level.f rank_cut.f
  simp only [Option.bind_some]
  rw [if_neg (by omega), Int.tdiv_eq_ediv_of_nonneg h0, u64_w hd0 (by omega)]
  have e1 : wrap64 (mn (w / mx a 1) 6) = mn (w / mx a 1) 6 := by
    generalize w / mx a 1 = q at *
    unfold wrap64 mn; split <;> omega
  rw [e1]
  congr 2
  generalize w / mx a 1 = q at *
  unfold wrap64 mn mx; repeat' split
  all_goals omega

theorem RankRises : lockkeeperlaw19_RankRises.Pure := by
  intro a0 a1 a2 a3 a4 h0 h1 h2 h3 h4
  have ⟨x0, x1⟩ := u64_of_wf h2
  have ⟨y0, y1⟩ := u64_of_wf h3
  have ⟨z0, z1⟩ := u64_of_wf h4
  refine ⟨10, ?_⟩
  have haw : lockkeeperlaw19_awake.f 10 = some true := by decide +kernel
  have hadd : ∃ s, tick_Add.f a2 a3 = some s ∧ a2 ≤ s ∧ s < 18446744073709551616 := by
    unfold tick_Add.f
    rw [u64_w (x := 18446744073709551615 - a2) (by omega) (by omega)]
    split
    · exact ⟨_, rfl, by omega, by omega⟩
    · rw [u64_w (by omega) (by omega)]
      exact ⟨_, rfl, by omega, by omega⟩
  obtain ⟨s, hs, s0, s1⟩ := hadd
  unfold lockkeeperlaw19_RankRises.f
  rw [level_eq a0 a2 a4 x0 x1, hs]
  simp only [Option.bind_some]
  rw [level_eq a0 s a4 (by omega) s1, level_eq (mn a0 a1) a2 a4 x0 x1, level_eq a0 0 a4 (by omega) (by omega), haw]
  simp only [Option.bind_some]
  have hm : 1 ≤ mx a4 1 := by unfold mx; split <;> omega
  have hd0 : 0 ≤ a2 / mx a4 1 := Int.ediv_nonneg x0 (by omega)
  have hd1 : a2 / mx a4 1 ≤ s / mx a4 1 := Int.ediv_le_ediv (by omega) s0
  rw [Int.zero_ediv]
  generalize a2 / mx a4 1 = q at *
  generalize s / mx a4 1 = p at *
  rw [if_pos, if_pos, if_pos, if_pos, if_pos]
  all_goals (unfold mx mn; repeat' split)
  all_goals omega

end Go.Proofs.Ytnamodjckniibaa.Pure
