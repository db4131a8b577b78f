/- TimerSorts: its walk. -/
import Derived.Test.YtlnablnnnnkeaaaStages
import Derived.Test.YtlnablnnnnkeaaaLow
namespace Go.Proofs.Ytlnablnnnnkeaaa
open Go.RowKit Go.Proofs.YtlnablnnnnkeaaaW.PrintLast
set_option linter.unusedVariables false
set_option linter.unusedSimpArgs false

theorem arms_has (zs : List Int) (c : Int) : ∀ i, i ≤ zs.length → ∀ j, j < i → ∃ t ∈ arms zs c i, t.id = (j : Int) + 1
  | 0, _, j, hj => absurd hj (Nat.not_lt_zero _)
  | i + 1, h, j, hj => by
    rw [arms_succ (List.getElem?_eq_getElem (show i < zs.length by omega))]
    by_cases hji : j = i
    · exact ⟨_, List.mem_cons_self, by simp [hji]⟩
    · obtain ⟨t, ht, h2⟩ := arms_has zs c i (by omega) j (by omega)
      exact ⟨t, List.mem_cons_of_mem _ ht, h2⟩

theorem arms_nodup (zs : List Int) (c : Int) : ∀ i, ((arms zs c i).map (·.id)).Nodup
  | 0 => .nil
  | i + 1 => by
    rw [arms]
    split
    · rw [List.map_cons, List.nodup_cons]
      refine ⟨?_, arms_nodup zs c i⟩
      intro h
      obtain ⟨t, ht, h2⟩ := List.mem_map.1 h
      obtain ⟨j, hj, _, h3, _⟩ := arms_mem zs c i t ht
      simp only at h2
      omega
    · exact arms_nodup zs c i

/-- What is left stands behind what was told last. -/
def Behind (zs : List Int) (nl : Nat) (g last at_ : Int) (R : List One) : Prop :=
  (∀ t ∈ R, (∃ j : Nat, j < nl ∧ zs[j]? = some t.at_ ∧ t.id = (j : Int) + 1 ∧ t.tag = 1000 + j) ∧ t.id ≠ g ∧ (at_ < t.at_ ∨ at_ = t.at_ ∧ last < t.id)) ∧ (R.map (·.id)).Nodup

theorem Behind.next {zs : List Int} {nl : Nat} {g last at_ : Int} {R R' : List One} {t : One} (h : Behind zs nl g last at_ R) (hp : (t :: R').Perm R) (hl : ∀ x ∈ R', leO t x) : Behind zs nl g t.id t.at_ R' := by
  have hnd := (hp.map (·.id)).nodup_iff.2 h.2
  rw [List.map_cons, List.nodup_cons] at hnd
  refine ⟨fun x hx => ?_, hnd.2⟩
  obtain ⟨h1, h2, h3⟩ := h.1 x (hp.mem_iff.1 (List.mem_cons_of_mem _ hx))
  refine ⟨h1, h2, ?_⟩
  have h4 := hl x hx
  rw [leO_iff] at h4
  have h5 : t.id ≠ x.id := fun e => hnd.1 (List.mem_map.2 ⟨x, hx, e.symm⟩)
  omega

set_option maxRecDepth 100000 in
set_option maxHeartbeats 6400000 in
theorem timerSorts_walk (w : World) (al : Option Addr) (nl cl : Nat) (zs : List Int) (hz : Slc (encI .u64) 1 w al nl zs) (gz : ∀ z ∈ zs, (Lit.int .u64 z).wf = true) (out : Int) (hout : (Lit.int .i64 out).wf = true) :
    Calls Try.prog 5 #[.slice al nl cl, .int .i64 out] w fun e w' => e = .returned (.bool true) ∧ Ext [] w w' := by
  have hlen := hz.1
  by_cases hbig : 200 < nl
  · have d1 : decide (200 < nl) = true := decide_eq_true hbig
    go_enter Try.func5, Try.ntmps5
    go_wp2_with fail
    refine (awake_any w).mono ?_
    rintro e w1 ⟨rfl, h1⟩
    go_wp2_with fail
    go_ret
    exact ⟨rfl, h1⟩
  · have d1 : decide (200 < nl) = false := decide_eq_false hbig
    have hm : clampM 256 = 256 := by decide
    have gz' : ∀ z ∈ zs, 0 ≤ z ∧ z ≤ 18446744073709551615 := by
      intro z hz
      have := gz z hz
      simp [Lit.wf, IntKind.min, IntKind.max, IntKind.bits, IntKind.signed] at this
      omega
    have GZ := Lib.hid gz'
    clear gz gz'
    go_enter Try.func5, Try.ntmps5
    go_wp2_with fail
    refine (wo_new 256 w).mono ?_
    rintro e w1 ⟨rfl, h1, e1⟩
    rw [hm] at h1
    go_wp2_with fail
    go_loopw [6] (fun iv wr => ∃ (i : Nat) (S : List Nat), i ≤ nl ∧ iv = .int .i64 i ∧ WO wr w.heap.size S (arms zs 1000 i) 256 i ∧ Ext [] w wr ∧ Hid (∀ x ∈ S, w.heap.size ≤ x)) (fun iv _ => nl - (intOf iv).toNat)
    case atStart => exact ⟨0, _, Nat.zero_le _, rfl, h1, e1, by intro x hx; simp at hx; omega⟩
    case round =>
      obtain ⟨i, S, hin, rfl, hw, her, hS⟩ := hrel
      by_cases hk : i < nl
      · have d2 : decide (i < nl) = true := decide_eq_true hk
        obtain ⟨z, hzi⟩ : ∃ z, zs[i]? = some z := ⟨_, List.getElem?_eq_getElem (by omega)⟩
        obtain ⟨lb, lo, hcell⟩ := hz.int_at
        obtain ⟨hal, hlb, hcz⟩ := hcell i z hzi
        subst hal
        clear hcell
        have hci := (her.cell (p := ⟨lb, lo + i, none⟩) hlb (by simp)).trans hcz
        have b1 : (0 : Int) ≤ (i : Int) := by omega
        have b2 : (i : Int) < (nl : Int) := by omega
        have hll := arms_len zs 1000 i (by omega)
        go_wp2_with fail
        refine (wo_arm _ _ _ _ _ z (1000 + i) (by omega) wr hw (by omega) (by omega)).mono ?_
        rintro e w3 (⟨h, _⟩ | ⟨-, rfl, S', h3, e3, k3⟩)
        · omega
        have her3 := her.fresh e3 hS.out
        have hS3 := Lib.hid (own_ge hS.out k3 her.size)
        rw [← arms_succ hzi] at h3
        clear k3 hci e3 hll
        go_wp2_with fail
        exact ⟨⟨i + 1, S', by omega, rfl, h3, her3, hS3⟩, by simp [intOf]; omega⟩
      · have d2 : decide (i < nl) = false := decide_eq_false hk
        have hll := arms_len zs 1000 i (by omega)
        have hin' : i = nl := by omega
        subst hin'
        obtain ⟨wo, hwo⟩ : ∃ wo : World, wo = wr := ⟨_, rfl⟩
        rw [← hwo] at hw her
        have HW := Lib.hid hwo
        have HLL := Lib.hid hll
        clear hll hwo
        by_cases hn0 : i = 0
        · subst hn0
          go_wp2_with fail
          have hwo := HW.out
          clear HW
          subst hwo
          go_loopw [12] (fun iv wr => iv = .int .i64 1 ∧ wo = wr) (fun iv _ => 0)
          case atStart => exact ⟨rfl, rfl⟩
          case round =>
            obtain ⟨rfl, rfl⟩ := hrel
            go_wp2_with fail
            refine (wo_due _ S (arms zs 1000 0) _ _ 18446744073709551615 (by simp [arms]) _ hw).mono ?_
            rintro e w6 (⟨-, rfl, h6, e6⟩ | ⟨t, R', hp, -, -, rfl, h6, e6⟩)
            rotate_left
            · simp [arms] at hp
            have her6 := her.trans e6 (by simp)
            have hLn := wo_len _ _ _ _ _ _ h6
            simp only [arms, List.length_nil] at hLn
            have HLN := Lib.hid hLn
            clear hLn e6
            go_wp2_with fail
            refine HLN.out.mono ?_
            rintro e w7 ⟨rfl, rfl⟩
            go_wp2_with fail
            refine (awake_any _).mono ?_
            rintro e w7 ⟨rfl, e7⟩
            go_wp2_with fail
            go_ret
            exact ⟨rfl, her6.trans e7 (by simp)⟩
        · have hpos : 0 < i := by omega
          have hwo := HW.out
          subst hwo
          clear HW
          obtain ⟨g, hg, hgb⟩ : ∃ g : Nat, (g : Int) = lowI out i ∧ g < i := by
            have := lowI_bd out i (by omega)
            exact ⟨(lowI out i).toNat, by omega, by omega⟩
          have hLow := fun w => low_any out i (by omega) (by omega) w
          rw [← hg] at hLow
          have HLOW := Lib.hid hLow
          clear hLow hg
          go_wp2_with fail
          refine (HLOW.out _).mono ?_
          rintro e w0 ⟨rfl, rfl⟩
          go_wp2_with fail
          refine (wo_cancel _ S _ _ _ (1 + (g : Int)) (by have := HLL.out; omega) wo hw).mono ?_
          rintro e w4 (⟨hno, _⟩ | ⟨t, L', hp, htid, rfl, h4, e4⟩)
          · obtain ⟨t, ht, h⟩ := arms_has zs 1000 i (by omega) g hgb
            exact absurd (by omega) (hno t ht)
          have her4 := her.fresh e4 hS.out
          have hnd := (hp.map (·.id)).nodup_iff.2 (arms_nodup zs 1000 i)
          rw [List.map_cons, List.nodup_cons] at hnd
          have hne : ∀ x ∈ L', x.id ≠ 1 + (g : Int) := fun x hx e => hnd.1 (List.mem_map.2 ⟨x, hx, by rw [e, htid]⟩)
          have hl' := hp.length_eq
          rw [List.length_cons, HLL.out] at hl'
          have hbe : Behind zs i (1 + (g : Int)) 0 0 L' := by
            refine ⟨fun x hx => ?_, hnd.2⟩
            obtain ⟨j, k1, k2, k3, k4⟩ := arms_mem zs 1000 i x (hp.mem_iff.1 (List.mem_cons_of_mem _ hx))
            refine ⟨⟨j, k1, k2, k3, k4⟩, hne x hx, ?_⟩
            have := GZ.out x.at_ (List.mem_of_getElem? k2)
            omega
          have HBE := Lib.hid hbe; have HNE := Lib.hid hne; have HP := Lib.hid hp; have HTI := Lib.hid htid; have HL' := Lib.hid hl'
          clear hbe hne hp htid hnd e4 hl'
          go_wp2_with fail
          refine (wo_cancel _ S _ _ _ (1 + (g : Int)) (by have := HL'.out; omega) w4 h4).mono ?_
          rintro e w5 (⟨-, rfl, h5, e5⟩ | ⟨t', L'', hp', htid', _⟩)
          rotate_left
          · exact absurd htid' (HNE.out t' (hp'.mem_iff.1 (by simp)))
          have her5 := her4.trans e5 (by simp)
          clear e5
          go_wp2_with fail
          obtain ⟨wl, hwl⟩ : ∃ wl : World, wl = w5 := ⟨_, rfl⟩
          subst hwl
          go_loopw [10, 11, 12] (fun lv av iv wr => ∃ (j : Nat) (last at_ : Int) (R : List One), 1 ≤ j ∧ j ≤ i ∧ R.length + j = i ∧ iv = .int .i64 j ∧ lv = .int .i64 last ∧ av = .int .u64 at_ ∧ Hid (Behind zs i (1 + (g : Int)) last at_ R) ∧ WO wr w.heap.size S R 256 i ∧ Ext [] w wr) (fun _ _ iv _ => i - (intOf iv).toNat)
          case atStart => exact ⟨1, 0, 0, L', by omega, by omega, HL'.out, rfl, rfl, rfl, HBE.out, h5, her5⟩
          case round =>
            obtain ⟨j, last, at_, R, hj1, hji, hRl, rfl, rfl, rfl, hB, hw, her⟩ := hrel
            by_cases hj : j < i
            · have d4 : decide (j < i) = true := decide_eq_true hj
              have HRL := Lib.hid hRl
              have hR2 : R.length < 1000 := by omega
              clear hRl
              go_wp2_with fail
              refine (wo_due _ S R _ _ 18446744073709551615 hR2 _ hw).mono ?_
              rintro e w6 (⟨h, _⟩ | ⟨t, R', hp, hle, -, rfl, h6, e6⟩)
              · have hpos : 0 < R.length := by have := HRL.out; omega
                obtain ⟨⟨k, k1, k2, k3, k4⟩, _⟩ := hB.out.1 R[0] (List.getElem_mem hpos)
                have := GZ.out _ (List.mem_of_getElem? k2)
                have := h R[0] (List.getElem_mem hpos)
                omega
              have her6 := her.fresh e6 hS.out
              obtain ⟨⟨k, k1, k2, k3, k4⟩, kg, kb⟩ := hB.out.1 t (hp.mem_iff.1 (by simp))
              have hB' := Lib.hid (hB.out.next hp hle)
              have hll := hp.length_eq
              simp only [List.length_cons] at hll
              have hRl' : R'.length + (j + 1) = i := by have := HRL.out; omega
              obtain ⟨ta, ti, tt⟩ := t
              simp only at k2 k3 k4 kg kb hB' ⊢
              subst k3 k4
              obtain ⟨lb, lo, hcell⟩ := hz.int_at
              obtain ⟨hal, hlb, hcz⟩ := hcell k ta k2
              subst hal
              clear hcell hle
              have hck := (her6.cell (p := ⟨lb, lo + k, none⟩) hlb (by simp)).trans hcz
              have b1 : (0 : Int) ≤ (k : Int) := by omega
              have b2 : (k : Int) < (i : Int) := by omega
              have d5 : ((k : Int) + 1 == 1 + (g : Int)) = false := by simp; omega
              have d6 : decide (ta < at_) = false := decide_eq_false (by omega)
              have HKB := Lib.hid kb; have HLL2 := Lib.hid hll; have HPP := Lib.hid hp; have HR' := Lib.hid hRl'
              clear kb hll hp hRl' e6 hB kg
              by_cases hta : ta = at_
              · have d7 : (ta == at_) = true := by simp [hta]
                have d8 : decide ((k : Int) + 1 ≤ last) = false := decide_eq_false (by have := HKB.out; omega)
                have HTA := Lib.hid hta
                clear hta
                go_wp2_with fail
                go_quiet (fail)
                go_wp2_with fail
                exact ⟨⟨j + 1, (k : Int) + 1, ta, R', by omega, by have := HR'.out; omega, HR'.out, rfl, rfl, rfl, hB'.out, h6.keep ((Ext.refl [] _).drewN _) (by simp), her6.drewN _⟩, by simp [intOf]; omega⟩
              · have d7 : (ta == at_) = false := by simp [hta]
                have HTA := Lib.hid hta
                clear hta
                go_wp2_with fail
                go_quiet (fail)
                go_wp2_with fail
                exact ⟨⟨j + 1, (k : Int) + 1, ta, R', by omega, by have := HR'.out; omega, HR'.out, rfl, rfl, rfl, hB'.out, h6.keep ((Ext.refl [] _).drewN _) (by simp), her6.drewN _⟩, by simp [intOf]; omega⟩
            · have d4 : decide (j < i) = false := decide_eq_false hj
              have hji' : j = i := by omega
              have hR0 : R = [] := List.length_eq_zero_iff.1 (by omega)
              subst hR0
              go_wp2_with fail
              refine (wo_due _ S [] _ _ 18446744073709551615 (by simp) _ hw).mono ?_
              rintro e w6 (⟨-, rfl, h6, e6⟩ | ⟨t, R', hp, -, -, rfl, h6, e6⟩)
              rotate_left
              · simp at hp
              have her6 := her.trans e6 (by simp)
              have hLn := wo_len _ _ _ _ _ _ h6
              simp only [List.length_nil] at hLn
              have HLN := Lib.hid hLn
              clear hLn e6
              go_wp2_with fail
              refine HLN.out.mono ?_
              rintro e w7 ⟨rfl, rfl⟩
              go_wp2_with fail
              refine (awake_any _).mono ?_
              rintro e w7 ⟨rfl, e7⟩
              go_wp2_with fail
              go_ret
              exact ⟨rfl, her6.trans e7 (by simp)⟩
end Go.Proofs.Ytlnablnnnnkeaaa
