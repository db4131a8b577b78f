/- The numbers of rank and of its reference, told in closed form: they are the same. -/
import Derived.Test.YtnamodjckniibaaPRankAllx3
namespace Go.Proofs.Ytnamodjckniibaa.RankPure
open Go.RowKit Go.Proofs.Ytnamodjckniibaa.PRankAll Go.Proofs.YtnamodjckniibaaW.PrintWords Go.Proofs.YtnamodjckniibaaW.PrintLast

theorem u64_w {x : Int} (h0 : 0 ≤ x) (h1 : x < 18446744073709551616) : IntKind.u64.wrap x = x := by
  simp [IntKind.wrap, IntKind.bits, IntKind.signed]
  omega

theorem u64_of_wf {a : Int} (h : (Lit.int .u64 a).wf = true) : 0 ≤ a ∧ a < 18446744073709551616 := by
  simp [Lit.wf, IntKind.min, IntKind.max, IntKind.bits, IntKind.signed] at h
  omega

def lv (c w a : Int) : Int := mx 1 (mx 1 (mn c 6) - mn (w / mx a 1) 6)

theorem level_eq (c w a : Int) (h0 : 0 ≤ w) (h1 : w < 18446744073709551616) : rank_Level.f c w a = some (lv c w a) := by
  have hm : 1 ≤ mx a 1 := by unfold mx; split <;> omega
  have hd0 : 0 ≤ w / mx a 1 := Int.ediv_nonneg h0 (by omega)
  have hd1 : w / mx a 1 ≤ w := Int.ediv_le_self _ h0
  unfold rank_Level.f rank_cut.f lv
  simp only [Option.bind_some]
  rw [if_neg (by omega), Int.tdiv_eq_ediv_of_nonneg h0, u64_w hd0 (by omega)]
  have e1 : wrap64 (mn (w / mx a 1) 6) = mn (w / mx a 1) 6 := by
    generalize w / mx a 1 = q at *
    unfold wrap64 mn; split <;> omega
  rw [e1]
  congr 2
  generalize w / mx a 1 = q at *
  unfold wrap64 mn mx; repeat' split
  all_goals omega

theorem rlevel_eq (c w a : Int) (h0 : 0 ≤ w) (h1 : w < 18446744073709551616) : lockkeeperref19_Level.f c w a = some (lv c w a) := by
  have hm : 1 ≤ mx a 1 := by unfold mx; split <;> omega
  have hd0 : 0 ≤ w / mx a 1 := Int.ediv_nonneg h0 (by omega)
  have hd1 : w / mx a 1 ≤ w := Int.ediv_le_self _ h0
  have hc : 1 ≤ mn (mx c 1) 6 ∧ mn (mx c 1) 6 ≤ 6 ∧ mx 1 (mn c 6) = mn (mx c 1) 6 := by (unfold mx mn; (repeat' split) <;> omega)
  unfold lockkeeperref19_Level.f lockkeeperref19_cut.f lv
  simp only [Option.bind_some]
  rw [if_neg (by omega), Int.tdiv_eq_ediv_of_nonneg h0, u64_w hd0 (by omega), hc.2.2]
  generalize mn (mx c 1) 6 = r at *
  generalize w / mx a 1 = q at *
  by_cases h : q ≥ r
  · rw [if_pos h]
    congr 1
    unfold mx mn; repeat' split
    all_goals omega
  · rw [if_neg h, u64_w (by omega) (by omega)]
    congr 1
    unfold wrap64 mx mn; repeat' split
    all_goals omega

/-- A sum, held at the end. -/
def cap (x : Int) : Int := mn x 18446744073709551615

theorem add_eq (a b : Int) (ha : 0 ≤ a) (hb : 0 ≤ b) (ha1 : a < 18446744073709551616) (hb1 : b < 18446744073709551616) : tick_Add.f a b = some (cap (a + b)) := by
  unfold tick_Add.f cap mn
  rw [u64_w (x := 18446744073709551615 - a) (by omega) (by omega)]
  by_cases h : b > 18446744073709551615 - a
  · rw [if_pos h]; split
    · rfl
    · congr 1; omega
  · rw [if_neg h, u64_w (by omega) (by omega), if_neg (by omega)]

theorem wait_l0 (g : Int) (h1 : 1 ≤ mx g 1) (h2 : mx g 1 < 18446744073709551616) (d : Nat) : ∀ (k : Nat) (x n i : Int), 0 ≤ x → x < 18446744073709551616 → 0 ≤ i → n - i = d → n < 10 → d < k →
    rank_Wait.l0 k g x n i = some (cap (x + d * mx g 1)) := by
  induction d with
  | zero =>
    intro k x n i hx0 hx1 hi hd hn hk
    obtain ⟨k, rfl⟩ : ∃ m, k = m + 1 := ⟨k - 1, by omega⟩
    simp only [rank_Wait.l0]
    rw [if_neg (by omega)]
    unfold cap mn
    congr 1; split <;> omega
  | succ d ih =>
    intro k x n i hx0 hx1 hi hd hn hk
    obtain ⟨k, rfl⟩ : ∃ m, k = m + 1 := ⟨k - 1, by omega⟩
    simp only [rank_Wait.l0]
    rw [if_pos (by omega), add_eq x _ hx0 (by omega) hx1 h2]
    simp only [Option.bind_some]
    have hw : wrap64 (i + 1) = i + 1 := by unfold wrap64; omega
    have hc : 0 ≤ cap (x + mx g 1) ∧ cap (x + mx g 1) < 18446744073709551616 := by unfold cap mn; split <;> omega
    rw [hw, ih k (cap (x + mx g 1)) n (i + 1) hc.1 hc.2 (by omega) (by omega) hn (by omega)]
    congr 1
    have hdm : 0 ≤ (d : Int) * mx g 1 := Int.mul_nonneg (by omega) (by omega)
    have hs : ((d + 1 : Nat) : Int) * mx g 1 = d * mx g 1 + mx g 1 := by push_cast; rw [Int.add_mul, Int.one_mul]
    rw [hs]
    generalize (d : Int) * mx g 1 = z at *
    unfold cap mn; repeat' split
    all_goals omega

theorem radd_eq (a b : Int) : lockkeeperref2_Add.f a b = tick_Add.f a b := rfl

theorem rwait_l0 (c g : Int) (h1 : 1 ≤ mx g 1) (h2 : mx g 1 < 18446744073709551616) (d : Nat) : ∀ (k : Nat) (x i : Int), 0 ≤ x → x < 18446744073709551616 → 0 ≤ i → mn (mx c 1) 6 - i = d → d < k →
    lockkeeperref19_Wait.l0 k c g x i = some (cap (x + d * mx g 1)) := by
  have hc : 1 ≤ mn (mx c 1) 6 ∧ mn (mx c 1) 6 ≤ 6 := by (unfold mx mn; (repeat' split) <;> omega)
  induction d with
  | zero =>
    intro k x i hx0 hx1 hi hd hk
    obtain ⟨k, rfl⟩ : ∃ m, k = m + 1 := ⟨k - 1, by omega⟩
    simp only [lockkeeperref19_Wait.l0, lockkeeperref19_cut.f, Option.bind_some]
    rw [if_neg (by omega)]
    unfold cap mn
    congr 1; split <;> omega
  | succ d ih =>
    intro k x i hx0 hx1 hi hd hk
    obtain ⟨k, rfl⟩ : ∃ m, k = m + 1 := ⟨k - 1, by omega⟩
    simp only [lockkeeperref19_Wait.l0, lockkeeperref19_cut.f, Option.bind_some]
    rw [if_pos (by omega), radd_eq, add_eq x _ hx0 (by omega) hx1 h2]
    simp only [Option.bind_some]
    have hw : IntKind.u64.wrap (i + 1) = i + 1 := u64_w (by omega) (by omega)
    have hc : 0 ≤ cap (x + mx g 1) ∧ cap (x + mx g 1) < 18446744073709551616 := by unfold cap mn; split <;> omega
    rw [hw, ih k (cap (x + mx g 1)) (i + 1) hc.1 hc.2 (by omega) (by omega) (by omega)]
    congr 1
    have hdm : 0 ≤ (d : Int) * mx g 1 := Int.mul_nonneg (by omega) (by omega)
    have hs : ((d + 1 : Nat) : Int) * mx g 1 = d * mx g 1 + mx g 1 := by push_cast; rw [Int.add_mul, Int.one_mul]
    rw [hs]
    generalize (d : Int) * mx g 1 = z at *
    unfold cap mn; repeat' split
    all_goals omega

def wt (c a : Int) : Int := cap ((mx 1 (mn c 6) - 1) * mx a 1)

theorem wait_eq (c a : Int) (a1 : a < 18446744073709551616) : rank_Wait.f 10 c a = some (wt c a) := by
  have hm : 1 ≤ mx a 1 := by unfold mx; split <;> omega
  have hm1 : mx a 1 < 18446744073709551616 := by unfold mx; split <;> omega
  unfold rank_Wait.f rank_cut.f wt
  simp only [Option.bind_some]
  have hc : 1 ≤ mx 1 (mn c 6) ∧ mx 1 (mn c 6) ≤ 6 := by (unfold mx mn; (repeat' split) <;> omega)
  generalize mx 1 (mn c 6) = q at *
  have hw : wrap64 (q - 1) = q - 1 := by unfold wrap64; omega
  rw [hw, wait_l0 a hm hm1 (q - 1).toNat 10 0 (q - 1) 0 (by omega) (by omega) (by omega) (by omega) (by omega) (by omega)]
  congr 2
  have : (((q - 1).toNat : Nat) : Int) = q - 1 := by omega
  rw [this]; omega

theorem rwait_eq (c a : Int) (a1 : a < 18446744073709551616) : lockkeeperref19_Wait.f 10 c a = some (wt c a) := by
  have hm : 1 ≤ mx a 1 := by unfold mx; split <;> omega
  have hm1 : mx a 1 < 18446744073709551616 := by unfold mx; split <;> omega
  have hc : 1 ≤ mn (mx c 1) 6 ∧ mn (mx c 1) 6 ≤ 6 ∧ mx 1 (mn c 6) = mn (mx c 1) 6 := by (unfold mx mn; (repeat' split) <;> omega)
  unfold lockkeeperref19_Wait.f wt
  rw [rwait_l0 c a hm hm1 (mn (mx c 1) 6 - 1).toNat 10 0 1 (by omega) (by omega) (by omega) (by omega) (by omega), hc.2.2]
  congr 2
  generalize mn (mx c 1) 6 = q at *
  have : (((q - 1).toNat : Nat) : Int) = q - 1 := by omega
  rw [this]; omega

def lf (a b : Int) : Int := if b ≤ a then 0 else b - a
def U (x : Int) : Prop := 0 ≤ x ∧ x < 18446744073709551616

theorem left_eq (a b : Int) (ha : U a) (hb : U b) : tick_Left.f a b = some (lf a b) ∧ U (lf a b) := by
  obtain ⟨_, _⟩ := ha; obtain ⟨_, _⟩ := hb
  unfold tick_Left.f lf U
  by_cases h : b ≤ a
  · rw [if_pos h, if_pos h]; exact ⟨rfl, by omega, by omega⟩
  · rw [if_neg h, if_neg h, u64_w (by omega) (by omega)]; exact ⟨rfl, by omega, by omega⟩

/-- Who goes first. -/
def ls (i c s j d t now g : Int) : Bool :=
  if lv c (lf s now) g < lv d (lf t now) g then true else if lv c (lf s now) g = lv d (lf t now) g then decide (i < j) else false

theorem less_eq (i c s : Int) (k : ByteArray) (p j d t : Int) (l : ByteArray) (q now g : Int) (hs : U s) (ht : U t) (hn : U now) :
    rank_Less.f i c s k p j d t l q now g = some (ls i c s j d t now g) := by
  obtain ⟨e1, u1⟩ := left_eq s now hs hn
  obtain ⟨e2, u2⟩ := left_eq t now ht hn
  unfold rank_Less.f rank_level.f ls
  rw [e1, e2]
  simp only [Option.bind_some]
  rw [level_eq c _ g u1.1 u1.2, level_eq d _ g u2.1 u2.2]
  simp only [Option.bind_some]
  split
  · rfl
  · split <;> rfl

theorem rless_eq (i c s : Int) (k : ByteArray) (p j d t : Int) (l : ByteArray) (q now g : Int) (hs : U s) (ht : U t) (hn : U now) :
    lockkeeperref19_Less.f i c s k p j d t l q now g = some (ls i c s j d t now g) := by
  obtain ⟨e1, u1⟩ := left_eq s now hs hn
  obtain ⟨e2, u2⟩ := left_eq t now ht hn
  unfold lockkeeperref19_Less.f ls
  rw [show lockkeeperref2_Left.f s now = tick_Left.f s now from rfl, show lockkeeperref2_Left.f t now = tick_Left.f t now from rfl, e1, e2]
  simp only [Option.bind_some]
  rw [rlevel_eq c _ g u1.1 u1.2, rlevel_eq d _ g u2.1 u2.2]
  simp only [Option.bind_some]
  split
  · rfl
  · split <;> rfl

theorem ls_irr (i c s now g : Int) : ls i c s i c s now g = false := by unfold ls; simp
theorem ls_total (i c s j d t now g : Int) (h : i ≠ j) : ls j d t i c s now g = !ls i c s j d t now g := by
  unfold ls
  generalize lv c (lf s now) g = x
  generalize lv d (lf t now) g = y
  by_cases h1 : x < y
  · rw [if_neg (by omega), if_neg (by omega), if_pos h1]; rfl
  · by_cases h2 : x = y
    · subst h2
      rw [if_neg (by omega), if_pos rfl, if_neg (by omega), if_pos rfl]
      by_cases h3 : i < j
      · rw [decide_eq_true h3, decide_eq_false (by omega)]; rfl
      · rw [decide_eq_false h3, decide_eq_true (by omega)]; rfl
    · rw [if_pos (by omega), if_neg h1, if_neg h2]; rfl
theorem ls_trans (i c s j d t m e u now g : Int) (h1 : ls i c s j d t now g = true) (h2 : ls j d t m e u now g = true) : ls i c s m e u now g = true := by
  unfold ls at *
  generalize lv c (lf s now) g = x at *
  generalize lv d (lf t now) g = y at *
  generalize lv e (lf u now) g = z at *
  by_cases k1 : x < z
  · rw [if_pos k1]
  · rw [if_neg k1]
    split at h1
    · split at h2
      · omega
      · split at h2
        · omega
        · cases h2
    · split at h1
      · split at h2
        · omega
        · split at h2
          · rw [if_pos (by omega)]; simp at h1 h2 ⊢; omega
          · cases h2
      · cases h1
end Go.Proofs.Ytnamodjckniibaa.RankPure
