/- HostsSix: its walk. -/
import Derived.Test.YtmmhpjodnceipaaHostsO
import Derived.Test.YtmmhpjodnceipaaLow
namespace Go.Proofs.Ytmmhpjodnceipaa
open Go.RowKit
set_option linter.unusedVariables false
set_option linter.unusedSimpArgs false

theorem Slc.one_str (w : World) (s : ByteArray) (T : TypeId) : Slc encS 1 (w.alloc (.cells #[.string s] T (0, 0))) (some ⟨w.heap.size, 0, none⟩) 1 [s] := by
  refine ⟨rfl, fun _ => ⟨w.heap.size, 0, rfl, by simp, fun i x hx j v hv => ?_⟩⟩
  match i, hx with
  | 0, hx =>
    have hx' : x = s := by simpa using hx.symm
    rw [hx'] at hv
    match j, hv with
    | 0, hv =>
      have hv' : v = .string s := by simpa [encS] using hv.symm
      rw [hv']
      exact (Blk.new w #[.string s] T).cell 0

theorem six_first (key : ByteArray) : useM 3 [] key = (⟨#[]⟩, 0, [⟨key, 0 + 1⟩]) := rfl
theorem six_use (key : ByteArray) (m : Int) (h : m < 6) : useM 3 [⟨key, m⟩] key = (⟨#[]⟩, 0, [⟨key, m + 1⟩]) :=
  useM_again (i := 0) (x := ⟨key, m⟩) rfl (by simp [hasKey]) (by intro j y hj; omega) h
theorem six_full (key : ByteArray) : useM 3 [⟨key, 6⟩] key = (⟨#[]⟩, 10, [⟨key, 6⟩]) :=
  useM_busy (i := 0) (x := ⟨key, 6⟩) rfl (by simp [hasKey]) (by intro j y hj; omega) (Int.le_refl 6)
theorem six_free (key : ByteArray) (m : Int) (h : 1 ≤ m) : freeM [⟨key, m⟩] key = (0, [⟨key, m - 1⟩]) := by
  unfold freeM
  rw [findIdx_at (i := 0) (x := ⟨key, m⟩) rfl (by simp [hasKey]) (by intro j y hj; omega)]
  simp; omega
theorem six_used (key : ByteArray) (m : Int) : usedM [⟨key, m⟩] key = m := by
  unfold usedM; rw [find_at (i := 0) (x := ⟨key, m⟩) rfl (by simp [hasKey]) (by intro j y hj; omega)]
theorem six_none (key : ByteArray) : freeM [⟨key, 6⟩] (key ++ ⟨#[120]⟩) = (11, [⟨key, 6⟩]) := by
  unfold freeM
  rw [findIdx_none]
  intro x hx
  simp at hx; subst hx
  simp only [hasKey, decide_eq_false_iff_not]
  intro e
  have := congrArg ByteArray.size e
  simp [ByteArray.size_append] at this
  exact absurd this (by decide)
theorem six_ok (key : ByteArray) (m : Int) (h0 : 0 ≤ m) (h6 : m ≤ 6) : HsOk [⟨key, m⟩] := by intro x hx; simp at hx; subst hx; exact ⟨h0, h6⟩

theorem long_one {n : Int} {s : ByteArray} (h : longL n [s] = false) : (s.size : Int) < n := by
  unfold longL at h
  split at h
  · cases h
  · omega

set_option maxHeartbeats 6400000 in
set_option maxRecDepth 100000 in
theorem hostsSix_walk (w : World) (key : ByteArray) (hkey : key.size ≤ 140737488351232) (m : Int) (hm : (Lit.int .i64 m).wf = true) :
    Calls Try.prog 3 #[.string key, .int .i64 m] w fun e w' => e = .returned (.bool true) ∧ Ext [] w w' := by
  clear hm hkey
  have hL1 := long_any 50 (by omega) (by omega) _ 1 1 [key] _ (Slc.one_str w key 9) (by omega)
  cases hlk : longL 50 [key] with
  | true =>
    rw [hlk] at hL1
    have HL1 := Lib.hid hL1
    clear hL1 hlk
    go_enter Try.func3, Try.ntmps3
    go_wp2_with fail
    refine HL1.out.mono ?_
    rintro e w1 ⟨rfl, rfl⟩
    go_wp2_with fail
    refine (awakeH_any _).mono ?_
    rintro e w1 ⟨rfl, e1⟩
    go_wp2_with fail
    go_ret
    exact ⟨rfl, ((Ext.refl _ _).alloc _).trans e1 (by simp)⟩
  | false =>
    rw [hlk] at hL1
    have hks := long_one hlk
    obtain ⟨k, hk, hk1⟩ : ∃ k : Nat, (k : Int) = lowI m 7 ∧ k < 7 := by
      have := lowI_bd m 7 (by omega)
      exact ⟨(lowI m 7).toNat, by omega, by omega⟩
    have hLow := fun w => low_any m 7 (by omega) (by omega) w
    rw [← hk] at hLow
    have HLOW := Lib.hid hLow
    have HL1 := Lib.hid hL1
    have hksz : key.size < 50 := by omega
    have hc : clampH 3 = 3 := by decide
    have cU := fun b S w (j : Int) (h : TO 3 w b S [⟨key, j⟩]) (h0 : 0 ≤ j) (h6 : j < 6) => to_use 3 b S [⟨key, j⟩] key (by simp) w h (six_ok key j h0 (by omega))
    have cF := fun b S w (j : Int) (h : TO 3 w b S [⟨key, j⟩]) (h0 : 1 ≤ j) (h6 : j ≤ 6) => to_free 3 b S [⟨key, j⟩] key (by simp) w h (six_ok key j (by omega) h6)
    have cG := fun b S w (j : Int) (h : TO 3 w b S [⟨key, j⟩]) => to_used 3 b S [⟨key, j⟩] key (by simp) w h
    have cX := fun b S w (h : TO 3 w b S [⟨key, 6⟩]) => to_use 3 b S [⟨key, 6⟩] key (by simp) w h (six_ok key 6 (by omega) (by omega))
    have cN := fun b S w (h : TO 3 w b S [⟨key, 6⟩]) => to_free 3 b S [⟨key, 6⟩] (key ++ ⟨#[120]⟩) (by simp) w h (six_ok key 6 (by omega) (by omega))
    have c0 := fun b S w (h : TO 3 w b S []) => to_use 3 b S [] key (by simp) w h ok_nil
    simp only [six_full] at cX; simp only [six_none] at cN; simp only [six_first] at c0; simp only [six_used] at cG
    have CU : Hid (∀ b S w (j : Int), TO 3 w b S [⟨key, j⟩] → 0 ≤ j → j < 6 → Calls Try.prog 14 #[.pointer (some ⟨b, 0, none⟩), .string key] w fun e w' => e = .returned (.tuple #[.string ⟨#[]⟩, .int .i64 0]) ∧ Chg (fun w' S' => TO 3 w' b S' [⟨key, j + 1⟩]) S w w') :=
      fun b S w j h h0 h6 => by have := cU b S w j h h0 h6; rwa [six_use key j h6] at this
    have CF : Hid (∀ b S w (j : Int), TO 3 w b S [⟨key, j⟩] → 1 ≤ j → j ≤ 6 → Calls Try.prog 17 #[.pointer (some ⟨b, 0, none⟩), .string key] w fun e w' => e = .returned (.int .i64 0) ∧ TO 3 w' b S [⟨key, j - 1⟩] ∧ Ext S w w') :=
      fun b S w j h h0 h6 => by have := cF b S w j h h0 h6; rwa [six_free key j h0] at this
    have CX := Lib.hid cX; have CN := Lib.hid cN; have C0 := Lib.hid c0; have CG := Lib.hid cG
    clear hLow hL1 hk hks hlk cU cF cX cN c0 cG
    go_enter Try.func3, Try.ntmps3
    go_wp2_with fail
    refine HL1.out.mono ?_
    rintro e w0 ⟨rfl, rfl⟩
    have e0 : Ext [] w (w.alloc (Obj.cells #[Value.string key] 9)) := (Ext.refl _ _).alloc _
    generalize w.alloc (Obj.cells #[Value.string key] 9) = w0 at e0 ⊢
    clear HL1
    go_wp2_with fail
    refine (to_new 3 w0).mono ?_
    rintro e w1 ⟨rfl, h1, e1⟩
    rw [hc] at h1
    have o1 := Own.start (e0.trans e1 (by simp)) (S := [w0.heap.size]) (by simp; exact e0.size)
    obtain ⟨b, hb⟩ : ∃ b, w0.heap.size = b := ⟨_, rfl⟩
    rw [hb] at h1 o1
    clear hc e1 e0
    go_wp2_with fail
    go_loopw [6] (fun iv wr => ∃ (j : Nat) (S : List Nat), j ≤ 6 ∧ iv = .int .i64 ((j : Int) + 1) ∧ Own w wr S ∧ Hid (j = 0 → TO 3 wr b S []) ∧ Hid (0 < j → TO 3 wr b S [⟨key, j⟩])) (fun iv _ => 8 - (intOf iv).toNat)
    case atStart => exact ⟨0, _, Nat.zero_le _, rfl, o1, fun _ => h1, fun h => absurd h (Nat.lt_irrefl _)⟩
    case round =>
      obtain ⟨j, S, hj6, rfl, ow, hz, hp⟩ := hrel
      clear h1 o1
      by_cases hj : j < 6
      · have d1 : decide ((j : Int) + 1 ≤ 6) = true := decide_eq_true (by omega)
        have hc : Calls Try.prog 14 #[.pointer (some ⟨b, 0, none⟩), .string key] wr fun e w' => e = .returned (.tuple #[.string ⟨#[]⟩, .int .i64 0]) ∧ Chg (fun w' S' => TO 3 w' b S' [⟨key, (j : Int) + 1⟩]) S wr w' := by
          rcases Nat.eq_zero_or_pos j with h | h
          · subst h; exact C0.out b S wr (hz.out rfl)
          · exact CU.out b S wr j (hp.out h) (by omega) (by omega)
        have HC := Lib.hid hc
        clear hc hz hp
        go_wp2_with fail
        refine HC.out.mono ?_
        rintro e w2 ⟨rfl, S2, h2, e2, k2⟩
        have o2 := ow.step e2 k2
        clear e2 k2
        go_wp2_with fail
        refine (CG.out b S2 w2 _ h2).mono ?_
        rintro e w3 ⟨rfl, e3⟩
        go_wp2_with fail
        refine ⟨⟨j + 1, S2, by omega, rfl, o2.quiet e3, fun h => absurd h (Nat.succ_ne_zero _), fun _ => ?_⟩, by simp [intOf]; omega⟩
        have := h2.keep0 e3
        simpa using this
      · have d1 : decide ((j : Int) + 1 ≤ 6) = false := decide_eq_false (by omega)
        have hj' : j = 6 := by omega
        have h2 := hp.out (by omega)
        rw [hj'] at h2
        have h2 : TO 3 wr b S [⟨key, 6⟩] := h2
        clear hz hp hj6 hj hj'
        go_wp2_with fail
        refine (CX.out b S wr h2).mono ?_
        rintro e w3 ⟨rfl, S3, h3, e3, k3⟩
        have o3 := ow.step e3 k3
        clear e3 k3
        go_wp2_with fail
        refine (CG.out b S3 w3 _ h3).mono ?_
        rintro e w4 ⟨rfl, e4⟩
        have o4 := o3.quiet e4
        have h4 := h3.keep0 e4
        clear e4
        go_wp2_with fail
        refine (HLOW.out w4).mono ?_
        rintro e w5 ⟨rfl, rfl⟩
        clear h2 h3 o3
        go_wp2_with fail
        go_loopw [12] (fun iv wr => ∃ (q : Nat), q ≤ k ∧ iv = .int .i64 q ∧ Own w wr S3 ∧ TO 3 wr b S3 [⟨key, 6 - (q : Int)⟩]) (fun iv _ => k - (intOf iv).toNat)
        case atStart => exact ⟨0, Nat.zero_le _, rfl, o4, h4⟩
        case round =>
          obtain ⟨q, hqk, rfl, oq, hq⟩ := hrel
          clear o4 h4
          by_cases hlt : q < k
          · have d2 : decide (q < k) = true := decide_eq_true hlt
            go_wp2_with fail
            refine (CF.out b S3 _ _ hq (by omega) (by omega)).mono ?_
            rintro e w5 ⟨rfl, h5, e5⟩
            have o5 := oq.same e5
            clear e5
            go_wp2_with fail
            refine ⟨⟨q + 1, by omega, rfl, o5, ?_⟩, by simp [intOf]; omega⟩
            rw [show (6 : Int) - ((q + 1 : Nat) : Int) = 6 - (q : Int) - 1 by omega]; exact h5
          · have d2 : decide (q < k) = false := decide_eq_false hlt
            have hqk' : q = k := by omega
            rw [hqk'] at hq
            clear hlt hqk hqk' ow
            go_wp2_with fail
            go_loopw [13] (fun iv wr => ∃ (p : Nat) (S : List Nat), p ≤ k ∧ iv = .int .i64 p ∧ Own w wr S ∧ TO 3 wr b S [⟨key, 6 - (k : Int) + p⟩]) (fun iv _ => k - (intOf iv).toNat)
            case atStart => exact ⟨0, S3, Nat.zero_le _, rfl, oq, by simpa using hq⟩
            case round =>
              obtain ⟨p, S4, hpk, rfl, op, hp⟩ := hrel
              clear oq hq
              by_cases hlt : p < k
              · have d3 : decide (p < k) = true := decide_eq_true hlt
                go_wp2_with fail
                refine (CU.out b S4 _ _ hp (by omega) (by omega)).mono ?_
                rintro e w6 ⟨rfl, S6, h6, e6, k6⟩
                have o6 := op.step e6 k6
                clear e6 k6
                go_wp2_with fail
                refine ⟨⟨p + 1, S6, by omega, rfl, o6, ?_⟩, by simp [intOf]; omega⟩
                rw [show (6 : Int) - (k : Int) + ((p + 1 : Nat) : Int) = 6 - (k : Int) + (p : Int) + 1 by omega]; exact h6
              · have d3 : decide (p < k) = false := decide_eq_false hlt
                rw [show (6 : Int) - (k : Int) + (p : Int) = 6 by omega] at hp
                clear hlt
                go_wp2_with fail
                refine (CX.out b S4 _ hp).mono ?_
                rintro e w6 ⟨rfl, S6, h6, e6, k6⟩
                have o6 := op.step e6 k6
                clear e6 k6
                go_wp2_with fail
                refine (CN.out b S6 w6 h6).mono ?_
                rintro e w7 ⟨rfl, h7, e7⟩
                have o7 := o6.same e7
                go_wp2_with fail
                refine (awakeH_any _).mono ?_
                rintro e w8 ⟨rfl, e8⟩
                have o8 := o7.quiet e8
                go_wp2_with fail
                go_ret
                exact ⟨rfl, o8.ext⟩
end Go.Proofs.Ytmmhpjodnceipaa
