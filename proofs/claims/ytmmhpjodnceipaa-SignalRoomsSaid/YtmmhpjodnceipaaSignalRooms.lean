/- SignalRooms: its walk. -/
import Derived.Test.YtmmhpjodnceipaaSgAwake
namespace Go.Proofs.Ytmmhpjodnceipaa
open Go.RowKit
set_option linter.unusedVariables false
set_option linter.unusedSimpArgs false

def repS (m : Nat) : List Sm := List.replicate m ⟨[], false⟩
theorem repS_mk (m : Nat) : mkS (repS m) [] = if 64 ≤ m then 10 else 0 := by unfold mkS repS; rw [List.length_replicate]; rfl
theorem repS_L (m : Nat) (h : m < 64) : mkL (repS m) [] = repS (m + 1) := by
  have h0 : mkS (repS m) [] = 0 := by rw [repS_mk, if_neg (by omega)]
  unfold mkL; rw [if_pos h0]; unfold repS; rw [List.replicate_succ']
theorem repS_L2 (m : Nat) (h : 64 ≤ m) : mkL (repS m) [] = repS m := by
  have h0 : mkS (repS m) [] = 10 := by rw [repS_mk, if_pos h]
  unfold mkL; rw [h0, if_neg (by decide)]
theorem repS_len (m : Nat) : (repS m).length = m := by simp [repS]
theorem repS_up (m : Nat) : UpOk (repS m) := by intro s hs; simp [repS] at hs; rw [hs.2]; simp
theorem repS_get {m i : Nat} (h : i < m) : (repS m)[i]? = some ⟨[], false⟩ := by unfold repS; rw [List.getElem?_replicate, if_pos h]

def goneS (m : Nat) : List Sm := (repS (m + 1)).set m ⟨[], true⟩
theorem goneS_len (m : Nat) : (goneS m).length = m + 1 := by simp [goneS, repS]
theorem goneS_up (m : Nat) : UpOk (goneS m) := by
  intro s hs
  unfold goneS at hs
  rcases List.mem_or_eq_of_mem_set hs with h | rfl
  · exact repS_up _ s h
  · simp
theorem goneS_get (m : Nat) : (goneS m)[m]? = some ⟨[], true⟩ := by unfold goneS; rw [List.getElem?_set_self (by rw [repS_len]; omega)]
theorem rep_abort (m : Nat) : abS (repS (m + 1)) ((m : Int) + 1) = (0, [(m : Int) + 1], goneS m) := by
  have hi : isS (repS (m + 1)).length ((m : Int) + 1) = true := by rw [repS_len]; exact isS_succ (by omega)
  have ht : ((m : Int) + 1 - 1).toNat = m := by omega
  have ho : offS (repS (m + 1)) ((m : Int) + 1) = false := by unfold offS; rw [hi, ht, repS_get (by omega)]; rfl
  have hu : undS (repS (m + 1)) ((m : Int) + 1) = [(m : Int) + 1] := by
    unfold undS; rw [hi, if_pos rfl, ht, repS_len, show m + 1 - ((m : Int) + 1).toNat = 0 by omega]; rfl
  unfold abS
  rw [hi, ho, hu, if_neg (by decide), if_neg (by decide)]
  have : abRS (repS (m + 1)) [(m : Int) + 1] = (goneS m, [(m : Int) + 1]) := by
    rw [abRS, ht, repS_get (by omega)]; rfl
  rw [this]
theorem gone_mk (m : Nat) (h : m + 1 < 64) : mkS (goneS m) [(m : Int) + 1] = 13 := by
  have hi : isS (goneS m).length ((m : Int) + 1) = true := by rw [goneS_len]; exact isS_succ (by omega)
  have ho : offS (goneS m) ((m : Int) + 1) = true := by unfold offS; rw [hi, show ((m : Int) + 1 - 1).toNat = m by omega, goneS_get]; rfl
  unfold mkS
  rw [if_neg (by rw [goneS_len]; omega), mkES, if_neg (by rw [hi]; decide), if_pos ho]
theorem gone_mk2 (m : Nat) (h : m + 1 < 64) : mkS (goneS m) [(m : Int) + 1 + 1] = 11 := by
  have hi : isS (goneS m).length ((m : Int) + 1 + 1) = false := by rw [goneS_len]; unfold isS; simp; omega
  unfold mkS
  rw [if_neg (by rw [goneS_len]; omega), mkES, if_pos hi]
theorem gone_abort (m : Nat) : abS (goneS m) 0 = (11, [], goneS m) := by
  have hi : isS (goneS m).length 0 = false := by unfold isS; simp
  unfold abS; rw [if_pos hi]

set_option maxHeartbeats 6400000 in
set_option maxRecDepth 100000 in
theorem signalRooms_walk (w : World) (m : Int) (hm : (Lit.int .i64 m).wf = true) :
    Calls Try.prog 5 #[.int .i64 m] w fun e w' => e = .returned (.bool true) ∧ Ext [] w w' := by
  clear hm
  obtain ⟨k, hk, hk1⟩ : ∃ k : Nat, (k : Int) = lowI m 70 ∧ k < 70 := by
    have := lowI_bd m 70 (by omega)
    exact ⟨(lowI m 70).toNat, by omega, by omega⟩
  have hLow := fun w => low_any m 70 (by omega) (by omega) w
  rw [← hk] at hLow
  have HLOW := Lib.hid hLow
  clear hLow hk
  go_enter Try.func5, Try.ntmps5
  go_wp2_with fail
  refine (so_new w).mono ?_
  rintro e w1 ⟨rfl, h1, e1⟩
  have o1 := Own.start e1 (S := [w.heap.size]) (by simp)
  obtain ⟨b, hb⟩ : ∃ b, w.heap.size = b := ⟨_, rfl⟩
  rw [hb] at h1 o1
  clear e1
  go_wp2_with fail
  refine (HLOW.out w1).mono ?_
  rintro e w2 ⟨rfl, rfl⟩
  clear HLOW
  go_wp2_with fail
  go_loopw [5] (fun iv wr => ∃ (j q : Nat) (S : List Nat), j ≤ k ∧ iv = .int .i64 ((j : Int) + 1) ∧ SO wr b S (repS q) ∧ Own w wr S ∧ q ≤ 64 ∧ Hid (q = min j 64)) (fun iv _ => k + 1 - (intOf iv).toNat)
  case atStart => exact ⟨0, 0, _, Nat.zero_le _, rfl, h1, o1, by omega, by rfl⟩
  case round =>
    obtain ⟨j, q, S, hjk, rfl, hw, ow, hq64, hq⟩ := hrel
    clear h1 o1
    by_cases hj : j < k
    · have d1 : decide ((j : Int) + 1 ≤ (k : Int)) = true := decide_eq_true (by omega)
      have hc := so_make b S (repS q) (.slice none 0 0) [] (by rw [repS_len]; omega) (by simp) wr hw (SrcI.nil wr)
      by_cases hjl : j < 64
      · have hqj : q = j := by have := hq.out; omega
        subst hqj
        rw [repS_mk, if_neg (show ¬ 64 ≤ q by omega), if_pos rfl, repS_len, repS_L q hjl] at hc
        have HC := Lib.hid hc
        have d2 : decide ((q : Int) + 1 ≤ 64) = true := decide_eq_true (by omega)
        clear hc hq
        go_wp2_with fail
        refine HC.out.mono ?_
        rintro e w3 ⟨rfl, S3, h3, e3, k3⟩
        have o3 := ow.step e3 k3
        clear e3 k3 HC
        go_wp2_with fail
        exact ⟨⟨q + 1, q + 1, S3, by omega, rfl, h3, o3, by omega, (show q + 1 = min (q + 1) 64 by omega)⟩, by simp [intOf]; omega⟩
      · have hqj : q = 64 := by have := hq.out; omega
        rw [repS_mk, if_pos (show 64 ≤ q by omega), if_neg (by decide), repS_L2 q (by omega)] at hc
        have HC := Lib.hid hc
        have d2 : decide ((j : Int) + 1 ≤ 64) = false := decide_eq_false (by omega)
        have HQJ := Lib.hid hqj
        clear hc hq hqj
        go_wp2_with fail
        refine HC.out.mono ?_
        rintro e w3 ⟨rfl, S3, h3, e3, k3⟩
        have o3 := ow.step e3 k3
        clear e3 k3 HC
        go_wp2_with fail
        exact ⟨⟨j + 1, q, S3, by omega, rfl, h3, o3, by omega, (show q = min (j + 1) 64 by have := HQJ.out; omega)⟩, by simp [intOf]; omega⟩
    · have d1 : decide ((j : Int) + 1 ≤ (k : Int)) = false := decide_eq_false (by omega)
      have hjk' : j = k := by omega
      by_cases hk0 : k < 1
      · have d2 : decide (k < 1) = true := decide_eq_true hk0
        clear hq
        go_wp2_with fail
        refine (awakeS_any _).mono ?_
        rintro e w3 ⟨rfl, e3⟩
        go_wp2_with fail
        go_ret
        exact ⟨rfl, (ow.quiet e3).ext⟩
      · have d2 : decide (k < 1) = false := decide_eq_false hk0
        by_cases hk63 : 63 < k
        · have d3 : decide (63 < k) = true := decide_eq_true hk63
          clear hq
          go_wp2_with fail
          refine (awakeS_any _).mono ?_
          rintro e w3 ⟨rfl, e3⟩
          go_wp2_with fail
          go_ret
          exact ⟨rfl, (ow.quiet e3).ext⟩
        · have d3 : decide (63 < k) = false := decide_eq_false hk63
          obtain ⟨p, hp⟩ : ∃ p, q = p + 1 := ⟨k - 1, by have := hq.out; omega⟩
          have hpk : k = p + 1 := by have := hq.out; omega
          have hp63 : p + 1 < 64 := by omega
          rw [hp] at hw
          have c1 := so_abort b S (repS (p + 1)) ((p : Int) + 1) (by rw [repS_len]; omega) (repS_up _) wr hw
          have c2 := fun W sv (hW : SO W b S (goneS p)) hs => so_make b S (goneS p) sv [(p : Int) + 1] (by rw [goneS_len]; omega) (by simp) W hW hs
          have c3 := fun W S' sv (hW : SO W b S' (goneS p)) hs => so_make b S' (goneS p) sv [(p : Int) + 1 + 1] (by rw [goneS_len]; omega) (by simp) W hW hs
          have c4 := fun W S' (hW : SO W b S' (goneS p)) => so_abort b S' (goneS p) 0 (by rw [goneS_len]; omega) (goneS_up _) W hW
          have c5 := fun W S' (hW : SO W b S' (goneS p)) => so_len b S' (goneS p) W hW
          unfold AbP at c1 c4
          rw [rep_abort] at c1; rw [gone_abort] at c4
          have l2 : mkL (goneS p) [(p : Int) + 1] = goneS p := by unfold mkL; rw [gone_mk p hp63, if_neg (by decide)]
          have l3 : mkL (goneS p) [(p : Int) + 1 + 1] = goneS p := by unfold mkL; rw [gone_mk2 p hp63, if_neg (by decide)]
          rw [gone_mk p hp63, l2, if_neg (by decide)] at c2
          rw [gone_mk2 p hp63, l3, if_neg (by decide)] at c3
          rw [goneS_len] at c5
          have hcast : (p : Int) + 1 = (k : Int) := by omega
          rw [hcast] at c1 c2 c3
          have hpk5 : ((p + 1 : Nat) : Int) = (k : Int) := by omega
          rw [hpk5] at c5
          subst hjk'
          have C1 := Lib.hid c1; have C2 := Lib.hid c2; have C3 := Lib.hid c3; have C4 := Lib.hid c4; have C5 := Lib.hid c5
          clear c1 c2 c3 c4 c5 l2 l3 hq hp hw hj hcast hpk5 hpk
          go_wp2_with fail
          refine C1.out.mono ?_
          rintro e w3 ⟨a3, c3, rfl, r3, f3, h3, e3⟩
          have o3 := ow.same e3
          clear e3 r3 f3 C1
          go_wp2_with fail
          refine (C2.out _ _ (h3.keep0 ((Ext.refl [] w3).alloc _)) (RI.new1 w3 (j : Int)).srcI).mono ?_
          rintro e w4 ⟨rfl, S4, h4, e4, k4⟩
          have o4 := (o3.quiet ((Ext.refl [] w3).alloc _)).step e4 k4
          clear e4 k4 C2
          go_wp2_with fail
          refine (C3.out _ _ _ (h4.keep0 ((Ext.refl [] w4).alloc _)) (RI.new1 w4 ((j : Int) + 1)).srcI).mono ?_
          rintro e w5 ⟨rfl, S5, h5, e5, k5⟩
          have o5 := (o4.quiet ((Ext.refl [] w4).alloc _)).step e5 k5
          clear e5 k5 C3
          go_wp2_with fail
          refine (C4.out w5 S5 h5).mono ?_
          rintro e w6 ⟨a6, c6, rfl, r6, f6, h6, e6⟩
          have o6 := o5.same e6
          clear e6 r6 f6 C4
          go_wp2_with fail
          refine (C5.out w6 S5 h6).mono ?_
          rintro e w7 ⟨rfl, rfl⟩
          clear C5
          go_wp2_with fail
          refine (awakeS_any _).mono ?_
          rintro e w8 ⟨rfl, e8⟩
          go_wp2_with fail
          go_ret
          exact ⟨rfl, (o6.quiet e8).ext⟩
end Go.Proofs.Ytmmhpjodnceipaa
