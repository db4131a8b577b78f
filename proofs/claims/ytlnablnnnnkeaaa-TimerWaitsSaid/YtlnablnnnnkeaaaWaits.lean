/- TimerWaits: its walk. -/
import Derived.Test.YtlnablnnnnkeaaaStages
namespace Go.Proofs.Ytlnablnnnnkeaaa
open Go.RowKit Go.Proofs.YtlnablnnnnkeaaaW.PrintLast
set_option linter.unusedVariables false
set_option linter.unusedSimpArgs false

/-- How many are not due. -/
def lateC (now : Int) (L : List One) : Nat := (L.filter (fun t => decide (now < t.at_))).length
theorem lateC_cons (now : Int) (t : One) (L : List One) : lateC now (t :: L) = if now < t.at_ then lateC now L + 1 else lateC now L := by
  unfold lateC
  rw [List.filter_cons]
  by_cases h : now < t.at_ <;> simp [h]
theorem lateC_perm {now : Int} {L M : List One} (h : L.Perm M) : lateC now L = lateC now M := (h.filter _).length_eq
theorem lateC_le (now : Int) (L : List One) : lateC now L ≤ L.length := List.length_filter_le _ _
theorem lateC_all {now : Int} {L : List One} (h : ∀ t ∈ L, now < t.at_) : lateC now L = L.length := by
  unfold lateC
  rw [List.filter_eq_self.2 (fun t ht => decide_eq_true (h t ht))]
theorem all_late {now : Int} {L : List One} (h : lateC now L = L.length) : ∀ t ∈ L, now < t.at_ := by
  unfold lateC at h
  intro t ht
  have := List.length_filter_eq_length_iff.1 h t ht
  simpa using this

set_option maxHeartbeats 6400000 in
theorem timerWaits_walk (w : World) (al : Option Addr) (nl cl : Nat) (zs : List Int) (hz : Slc (encI .u64) 1 w al nl zs) (gz : ∀ z ∈ zs, (Lit.int .u64 z).wf = true) (now : Int) (hnow : (Lit.int .u64 now).wf = true) :
    Calls Try.prog 4 #[.slice al nl cl, .int .u64 now] w fun e w' => e = .returned (.bool true) ∧ Ext [] w w' := by
  have hlen := hz.1
  by_cases hbig : 100 < nl
  · have d1 : decide (100 < nl) = true := decide_eq_true hbig
    go_enter Try.func4, Try.ntmps4
    go_wp2_with fail
    refine (awake_any w).mono ?_
    rintro e w1 ⟨rfl, h1⟩
    go_wp2_with fail
    go_ret
    exact ⟨rfl, h1⟩
  · have d1 : decide (100 < nl) = false := decide_eq_false hbig
    have hm : clampM 100 = 100 := by decide
    go_enter Try.func4, Try.ntmps4
    go_wp2_with fail
    refine (wo_new 100 w).mono ?_
    rintro e w1 ⟨rfl, h1, e1⟩
    rw [hm] at h1
    go_wp2_with fail
    go_loopw [6, 7] (fun lv iv wr => ∃ (i q : Nat) (S : List Nat), i ≤ nl ∧ iv = .int .i64 i ∧ lv = .int .i64 q ∧ Hid (lateC now (arms zs 0 i) = q ∧ q ≤ i) ∧ WO wr w.heap.size S (arms zs 0 i) 100 i ∧ Ext [] w wr ∧ Hid (∀ x ∈ S, w.heap.size ≤ x)) (fun _ iv _ => nl - (intOf iv).toNat)
    case atStart => exact ⟨0, 0, _, Nat.zero_le _, rfl, rfl, ⟨rfl, Nat.le_refl _⟩, h1, e1, by intro x hx; simp at hx; omega⟩
    case round =>
      obtain ⟨i, q, S, hin, rfl, rfl, hq, hw, her, hS⟩ := hrel
      by_cases hk : i < nl
      · have d2 : decide (i < nl) = true := decide_eq_true hk
        obtain ⟨z, hzi⟩ : ∃ z, zs[i]? = some z := ⟨_, List.getElem?_eq_getElem (by omega)⟩
        obtain ⟨lb, lo, hcell⟩ := hz.int_at
        obtain ⟨hal, hlb, hcz⟩ := hcell i z hzi
        subst hal
        clear hcell
        have hci := (her.cell (p := ⟨lb, lo + i, none⟩) hlb (by simp)).trans hcz
        have b1 : (0 : Int) ≤ (i : Int) := by omega
        have b2 : (i : Int) < (nl : Int) := by omega
        have hll := arms_len zs 0 i (by omega)
        go_wp2_with fail
        refine (wo_arm _ _ _ _ _ z i (by omega) wr hw (by omega) (by omega)).mono ?_
        rintro e w3 (⟨h, _⟩ | ⟨-, rfl, S', h3, e3, k3⟩)
        · omega
        have her3 := her.fresh e3 hS.out
        have hci3 := (her3.cell (p := ⟨lb, lo + i, none⟩) hlb (by simp)).trans hcz
        have hS3 := Lib.hid (own_ge hS.out k3 her.size)
        have ht : (⟨z, (i : Int) + 1, (i : Int)⟩ : One) :: arms zs 0 i = arms zs 0 (i + 1) := by rw [arms_succ hzi, Int.zero_add]
        have hlc := lateC_cons now ⟨z, (i : Int) + 1, (i : Int)⟩ (arms zs 0 i)
        rw [ht] at hlc h3
        have HLC := Lib.hid hlc
        have hqi : q ≤ i := hq.out.2
        clear k3 hci ht e3 hlc hll
        by_cases hzn : now < z
        · have d3 : decide (now < z) = true := decide_eq_true hzn
          go_wp2_with fail
          exact ⟨⟨i + 1, q + 1, S', by omega, rfl, rfl, ⟨by rw [HLC.out, if_pos hzn, hq.out.1], by omega⟩, h3, her3, hS3⟩, by simp [intOf]; omega⟩
        · have d3 : decide (now < z) = false := decide_eq_false hzn
          go_wp2_with fail
          exact ⟨⟨i + 1, q, S', by omega, rfl, rfl, ⟨by rw [HLC.out, if_neg (by show ¬ now < z; omega), hq.out.1], by omega⟩, h3, her3, hS3⟩, by simp [intOf]; omega⟩
      · have d2 : decide (i < nl) = false := decide_eq_false hk
        have hll := arms_len zs 0 i (by omega)
        have hin' : i = nl := by omega
        subst hin'
        generalize arms zs 0 i = L at *
        obtain ⟨wo, hwo⟩ : ∃ wo : World, wo = wr := ⟨_, rfl⟩
        rw [← hwo] at hw her
        have HW := Lib.hid hwo
        have hq1 := hq.out.1
        have hq2 : q ≤ i := hq.out.2
        have HQ1 := Lib.hid hq1
        have HLL := Lib.hid hll
        clear hq hq1 hll hwo
        go_wp2_with fail
        have hwo := HW.out
        clear HW
        subst hwo
        go_loopw [8] (fun iv wr => ∃ (j : Nat) (R : List One), j + q ≤ i ∧ iv = .int .i64 j ∧ Hid (lateC now R = q ∧ R.length + j = i) ∧ WO wr w.heap.size S R 100 i ∧ Ext [] w wr) (fun iv _ => i - (intOf iv).toNat)
        case atStart => exact ⟨0, L, by omega, rfl, ⟨HQ1.out, HLL.out⟩, hw, her⟩
        case round =>
          obtain ⟨j, R, hjq, rfl, hR, hw, her⟩ := hrel
          by_cases hj : j + q < i
          · have d4 : decide ((j : Int) < (i : Int) - (q : Int)) = true := decide_eq_true (by omega)
            go_wp2_with fail
            refine (wo_due _ S R _ _ now (by have := hR.out.2; omega) wr hw).mono ?_
            rintro e w5 (⟨h, _⟩ | ⟨t, R', hp, -, hle, rfl, h5, e5⟩)
            · have := lateC_all h
              have := hR.out
              omega
            have her5 := her.fresh e5 hS.out
            have hlp := lateC_perm (now := now) hp
            rw [lateC_cons, if_neg (by omega)] at hlp
            have hll := hp.length_eq
            simp only [List.length_cons] at hll
            have hR' : Hid (lateC now R' = q ∧ R'.length + (j + 1) = i) := by
              have := hR.out
              exact ⟨by omega, by omega⟩
            clear hlp hll e5 hR
            go_wp2_with fail
            exact ⟨⟨j + 1, R', by omega, rfl, hR', h5, her5⟩, by simp [intOf]; omega⟩
          · have d4 : decide ((j : Int) < (i : Int) - (q : Int)) = false := decide_eq_false (by omega)
            have hall := all_late (now := now) (L := R) (by have := hR.out; omega)
            have hRl : R.length = q := by have := hR.out; omega
            have HALL := Lib.hid hall
            clear hall
            go_wp2_with fail
            refine (wo_due _ S R _ _ now (by omega) wr hw).mono ?_
            rintro e w5 (⟨h, rfl, h5, e5⟩ | ⟨t, R', hp, -, hle, rfl, h5, e5⟩)
            rotate_left
            · have := HALL.out t (hp.mem_iff.1 (by simp))
              omega
            have her5 := her.trans e5 (by simp)
            clear e5 h
            go_wp2_with fail
            refine (wo_next _ S R _ _ w5 h5).mono ?_
            have HRL := Lib.hid hRl
            rintro e w6 ⟨⟨hn, rfl⟩ | ⟨t, ht, -, rfl⟩, h6, e6⟩
            · have her6 := her5.trans e6 (by simp)
              have hq0 : q = 0 := by rw [← hRl, hn]; rfl
              subst hq0
              have hLn := wo_len _ S R _ _ _ h6
              rw [HRL.out] at hLn
              have HLN := Lib.hid hLn
              clear hLn
              go_wp2_with fail
              refine HLN.out.mono ?_
              rintro e w7 ⟨rfl, rfl⟩
              go_wp2_with fail
              refine (awake_any _).mono ?_
              rintro e w7 ⟨rfl, e7⟩
              go_wp2_with fail
              go_ret
              exact ⟨rfl, her6.trans e7 (by simp)⟩
            · have her6 := her5.trans e6 (by simp)
              have hq0 : 0 < q := by rw [← hRl]; exact List.length_pos_of_mem ht
              have d5 : decide (now < t.at_) = true := decide_eq_true (HALL.out t ht)
              have hLn := wo_len _ S R _ _ _ h6
              rw [HRL.out] at hLn
              have HLN := Lib.hid hLn
              clear hLn
              go_wp2_with fail
              refine HLN.out.mono ?_
              rintro e w7 ⟨rfl, rfl⟩
              go_wp2_with fail
              refine (awake_any _).mono ?_
              rintro e w7 ⟨rfl, e7⟩
              go_wp2_with fail
              go_ret
              exact ⟨rfl, her6.trans e7 (by simp)⟩
end Go.Proofs.Ytlnablnnnnkeaaa
