/- Flip, Text, Low and Long of the statements' own package, by contract. -/
import Derived.Test.YtjmjnahihkhonaaMeth2
namespace Go.Proofs.Ytjmjnahihkhonaa
open Go.RowKit

/-- A letter's other case. -/
def xorN (c : Int) : Int := Go.bits BinOp.xor IntKind.u8 c 32

theorem xor_low (c : Int) (h0 : 0 ≤ c) (h1 : c < 256) (hl : letterN c = true) : lowN (xorN c) = lowN c ∧ 0 ≤ xorN c ∧ xorN c < 256 := by
  have := byte_all (fun c => !letterN c || (lowN (xorN c) == lowN c && (decide (0 ≤ xorN c) && decide (xorN c < 256)))) (by decide +kernel) c h0 h1
  simp only [hl, Bool.not_true, Bool.false_or, Bool.and_eq_true, beq_iff_eq, decide_eq_true_eq] at this
  exact ⟨this.1, this.2.1, this.2.2⟩

theorem strOf_low (s : ByteArray) (f : Nat → Int) (h : ∀ j, j < s.size → lowN (f j) = lowN (byteN s j) ∧ 0 ≤ f j ∧ f j < 256) :
    lowS (strOfNums ((List.range s.size).map f)) = lowS s ∧ (strOfNums ((List.range s.size).map f)).size = s.size := by
  have hsz : (strOfNums ((List.range s.size).map f)).size = s.size := by rw [strOfNums_size]; simp
  refine ⟨?_, hsz⟩
  rw [← lowS_nums s, ← lowS_nums (strOfNums _), hsz]
  congr 1
  refine List.map_congr_left fun j hj => ?_
  have hj' : j < s.size := List.mem_range.1 hj
  obtain ⟨a, b, c⟩ := h j hj'
  rw [← a]
  congr 1
  unfold byteN
  rw [strOfNums_data, List.getD_eq_getElem?_getD, List.getElem?_map, List.getElem?_map, List.getElem?_range hj']
  simp only [Option.map_some, Option.getD_some]
  have : (f j).toNat < 256 := by omega
  rw [UInt8.toNat_ofNat', Nat.mod_eq_of_lt this]
  omega

set_option maxHeartbeats 1600000 in
theorem flip_any (s : ByteArray) (hs : s.size ≤ 140737488351232) (bits : Int) (w : World) :
    Calls Try.prog 17 #[.string s, .int .u64 bits] w fun e w' => (∃ t : ByteArray, e = .returned (.string t) ∧ lowS t = lowS s ∧ t.size = s.size) ∧ Ext [] w w' := by
  have hcv := Lib.run_convert_string_bytes (P := Try.prog) w 9 38 5 s Try.underlying9 Try.underlying38 Try.underlying5
  go_enter Try.func17, Try.ntmps17
  go_wp2_with fail
  have hB := Lib.bytesWorld_size w 5 s
  have hE : Ext [] w (Lib.bytesWorld w 5 s) := ⟨rfl, rfl, rfl, by omega, fun k hk _ => Lib.bytesWorld_at_old w 5 s k hk⟩
  have hC := Lib.hid (fun j (hj : j < s.size) => Lib.bytesWorld_cell w 5 s j hj)
  have hF : ∀ j, j < s.size → (Lib.bytesWorld w 5 s).frozen? ⟨w.heap.size, j, none⟩ = false := by
    intro j hj
    have := Lib.bytesWorld_at_new w 5 s
    have hz : s.size ≤ (Lib.bytesCells w 5 s).size := by
      unfold Lib.bytesCells
      rw [Array.size_append, Array.size_map]
      exact Nat.le_add_right _ _
    simp only [World.frozen?, this]
    generalize (Lib.bytesCells w 5 s).size = z at hz
    have hn : ¬ z ≤ j := by omega
    simp [hn]
  have HF := Lib.hid hF
  clear hF hcv
  have HB := Lib.hid hB
  clear hB
  generalize Lib.bytesWorld w 5 s = w1 at *
  go_loopw [6] (fun i wr => ∃ (k : Nat) (f : Nat → Int), k ≤ s.size ∧ i = .int .i64 k ∧ Hid (∀ j, j < s.size → wr.cell? ⟨w.heap.size, j, none⟩ = some (.int .u8 (f j)) ∧ lowN (f j) = lowN (byteN s j) ∧ 0 ≤ f j ∧ f j < 256) ∧ Hid (∀ j, j < s.size → wr.frozen? ⟨w.heap.size, j, none⟩ = false) ∧ Ext [] w wr ∧ w.heap.size < wr.heap.size) (fun i _ => s.size - (intOf i).toNat)
  case atStart =>
    exact ⟨0, byteN s, Nat.zero_le _, rfl, fun j hj => ⟨hC.out j hj, rfl, byteN_bd s j⟩, HF, hE, by have := HB.out; omega⟩
  case round =>
    obtain ⟨k, f, hk, rfl, hcr, hfr, her, hsz⟩ := hrel
    by_cases hlt : k < s.size
    · obtain ⟨hc, hl, f0, f1⟩ := hcr.out k hlt
      have hf := hfr.out k hlt
      have HL := Lib.hid hl
      clear hl
      have hlt' : (k : Int) < (s.size : Int) := by omega
      by_cases g1 : 65 ≤ f k
      · by_cases g2 : f k ≤ 90
        · skip
          have d0 : decide (65 ≤ f k) = true := decide_eq_true (by omega)
          have d1 : decide (f k ≤ 90) = true := decide_eq_true (by omega)
          have d2 : decide (97 ≤ f k) = false := decide_eq_false (by omega)
          have hlet : letterN (f k) = true := by unfold letterN; simp; omega
          have HLET := Lib.hid hlet
          clear hlet
          go_wp2_with fail
          go_quiet (fail)
          go_wp2
          · have hlet := HLET.out
            go_roundw
            case rel =>
              refine ⟨k + 1, fun j => if j = k then xorN (f k) else f j, by omega, by go_num, fun j hj => ?_, fun j hj => ?_, (her.drewN _).setCell (Or.inr (Nat.le_refl _)) _, by simpa [World.setCell] using hsz⟩
              · by_cases hjk : j = k
                · subst hjk
                  obtain ⟨x1, x2, x3⟩ := xor_low (f j) f0 f1 hlet
                  simp only [if_true]
                  exact ⟨World.cell?_setCell_same _ _ _ hc, x1.trans HL.out, x2, x3⟩
                · simp only [if_neg hjk]
                  rw [World.cell?_setCell_other _ _ _ _ (by simp <;> omega)]
                  exact hcr.out j hj
              · simpa using hfr.out j hj
            case measure => simp [intOf]; omega
          · go_roundw
            case rel => exact ⟨k + 1, f, by omega, by go_num, hcr, hfr, her.drewN _, hsz⟩
            case measure => simp [intOf]; omega
        · by_cases g3 : 97 ≤ f k
          · by_cases g4 : f k ≤ 122
            · skip
              have d0 : decide (65 ≤ f k) = true := decide_eq_true (by omega)
              have d1 : decide (f k ≤ 90) = false := decide_eq_false (by omega)
              have d2 : decide (97 ≤ f k) = true := decide_eq_true (by omega)
              have d3 : decide (f k ≤ 122) = true := decide_eq_true (by omega)
              have hlet : letterN (f k) = true := by unfold letterN; simp; omega
              have HLET := Lib.hid hlet
              clear hlet
              go_wp2_with fail
              go_quiet (fail)
              go_wp2
              · have hlet := HLET.out
                go_roundw
                case rel =>
                  refine ⟨k + 1, fun j => if j = k then xorN (f k) else f j, by omega, by go_num, fun j hj => ?_, fun j hj => ?_, (her.drewN _).setCell (Or.inr (Nat.le_refl _)) _, by simpa [World.setCell] using hsz⟩
                  · by_cases hjk : j = k
                    · subst hjk
                      obtain ⟨x1, x2, x3⟩ := xor_low (f j) f0 f1 hlet
                      simp only [if_true]
                      exact ⟨World.cell?_setCell_same _ _ _ hc, x1.trans HL.out, x2, x3⟩
                    · simp only [if_neg hjk]
                      rw [World.cell?_setCell_other _ _ _ _ (by simp <;> omega)]
                      exact hcr.out j hj
                  · simpa using hfr.out j hj
                case measure => simp [intOf]; omega
              · go_roundw
                case rel => exact ⟨k + 1, f, by omega, by go_num, hcr, hfr, her.drewN _, hsz⟩
                case measure => simp [intOf]; omega
            · skip
              have d0 : decide (65 ≤ f k) = true := decide_eq_true (by omega)
              have d1 : decide (f k ≤ 90) = false := decide_eq_false (by omega)
              have d2 : decide (97 ≤ f k) = true := decide_eq_true (by omega)
              have d3 : decide (f k ≤ 122) = false := decide_eq_false (by omega)
              go_wp2_with fail
              go_quiet (fail)
              go_wp2
              go_roundw
              case rel => exact ⟨k + 1, f, by omega, by go_num, hcr, hfr, her.drewN _, hsz⟩
              case measure => simp [intOf]; omega
          · skip
            have d0 : decide (65 ≤ f k) = true := decide_eq_true (by omega)
            have d1 : decide (f k ≤ 90) = false := decide_eq_false (by omega)
            have d2 : decide (97 ≤ f k) = false := decide_eq_false (by omega)
            go_wp2_with fail
            go_quiet (fail)
            go_wp2
            go_roundw
            case rel => exact ⟨k + 1, f, by omega, by go_num, hcr, hfr, her.drewN _, hsz⟩
            case measure => simp [intOf]; omega
      · skip
        have g3 : f k < 97 := by omega
        have d0 : decide (65 ≤ f k) = false := decide_eq_false (by omega)
        have d1 : decide (97 ≤ f k) = false := decide_eq_false (by omega)
        go_wp2_with fail
        go_quiet (fail)
        go_wp2
        go_roundw
        case rel => exact ⟨k + 1, f, by omega, by go_num, hcr, hfr, her.drewN _, hsz⟩
        case measure => simp [intOf]; omega
    · obtain rfl : k = s.size := by omega
      have hcb := run_convert_bytes_arg (P := Try.prog) wr 38 5 Try.underlying38 Try.underlying5 w.heap.size 0 s.size (grownCap w s.size 0 5) ((List.range s.size).map f) (by simp)
        (fun i hi => by rw [Nat.zero_add, (hcr.out i hi).1]; simp [List.getD_eq_getElem?_getD, hi]) 9 Try.underlying9
      have hlow := strOf_low s f (fun j hj => (hcr.out j hj).2)
      have HLOW := Lib.hid hlow
      clear hlow
      generalize strOfNums ((List.range s.size).map f) = t at *
      have hd : decide (s.size < s.size) = false := by simp
      have hd2 : decide ((s.size : Int) < (s.size : Int)) = false := by simp
      go_wp2
      go_ret
      exact ⟨⟨t, rfl, HLOW.out⟩, her⟩
end Go.Proofs.Ytjmjnahihkhonaa
