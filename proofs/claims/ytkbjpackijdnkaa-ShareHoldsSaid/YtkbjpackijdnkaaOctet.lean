/- octet's functions and their reference, by contract: Lower, Fold, Token. -/
import Derived.Test.YtkbjpackijdnkaaCore
import Derived.Lib.ConvBytes
import Derived.Laws.BytesArg
import Derived.Laws.StandIn
namespace Go.Proofs.Ytkbjpackijdnkaa
open Go.RowKit

/-- A small letter in the place of a great one. -/
def lowB (c : UInt8) : UInt8 := if 65 ≤ c ∧ c ≤ 90 then c + 32 else c
def lowS (s : ByteArray) : ByteArray := ⟨(s.data.toList.map lowB).toArray⟩
def lowN (x : Int) : Int := if 65 ≤ x ∧ x ≤ 90 then x + 32 else x
def byteN (s : ByteArray) (j : Nat) : Int := (s.data.toList.getD j 0).toNat

theorem byteN_bd (s : ByteArray) (j : Nat) : 0 ≤ byteN s j ∧ byteN s j < 256 := by
  unfold byteN
  have := UInt8.toNat_lt (s.data.toList.getD j 0)
  omega

theorem lowB_N (c : UInt8) : ((lowB c).toNat : Int) = lowN (c.toNat : Int) := by
  unfold lowB lowN
  by_cases h : 65 ≤ c ∧ c ≤ 90
  · have h1 : (65 : Int) ≤ c.toNat ∧ (c.toNat : Int) ≤ 90 := by
      have a := UInt8.le_iff_toNat_le.1 h.1
      have b := UInt8.le_iff_toNat_le.1 h.2
      simp at a b; omega
    rw [if_pos h, if_pos h1, UInt8.toNat_add]
    simp; omega
  · have h1 : ¬ ((65 : Int) ≤ c.toNat ∧ (c.toNat : Int) ≤ 90) := by
      intro hh
      exact h ⟨UInt8.le_iff_toNat_le.2 (by simp; omega), UInt8.le_iff_toNat_le.2 (by simp; omega)⟩
    rw [if_neg h, if_neg h1]

theorem toBytes_ext {a b : ByteArray} (h : a.data.toList = b.data.toList) : a = b := by
  obtain ⟨⟨a⟩⟩ := a; obtain ⟨⟨b⟩⟩ := b
  exact congrArg (fun l : List UInt8 => (⟨⟨l⟩⟩ : ByteArray)) h

theorem size_toList (s : ByteArray) : s.data.toList.length = s.size := by rw [Array.length_toList]; rfl

theorem lowS_nums (s : ByteArray) : strOfNums ((List.range s.size).map fun j => lowN (byteN s j)) = lowS s := by
  refine toBytes_ext ?_
  rw [strOfNums_data]
  show _ = s.data.toList.map lowB
  refine List.ext_getElem ?_ fun i h1 h2 => ?_
  · rw [List.length_map, List.length_map, List.length_range, List.length_map, size_toList]
  · rw [List.getElem_map, List.getElem_map, List.getElem_map, List.getElem_range]
    have hi : i < s.data.toList.length := by rw [List.length_map] at h2; exact h2
    have : byteN s i = ((s.data.toList[i]).toNat : Int) := by
      unfold byteN
      rw [List.getD_eq_getElem?_getD, List.getElem?_eq_getElem hi, Option.getD_some]
    rw [this, ← lowB_N, Int.toNat_natCast, UInt8.ofNat_toNat]

set_option maxHeartbeats 400000 in
theorem lower_any (s : ByteArray) (hs : s.size ≤ 140737488351232) (w : World) :
    Calls Try.prog 58 #[.string s] w fun e w' => e = .returned (.string (lowS s)) ∧ Ext [] w w' := by
  have hcv := Lib.run_convert_string_bytes (P := Try.prog) w 9 27 5 s Try.underlying9 Try.underlying27 Try.underlying5
  go_enter Try.func58, Try.ntmps58
  go_wp2_with fail
  have hB := Lib.bytesWorld_size w 5 s
  have hE : Ext [] w (Lib.bytesWorld w 5 s) := ⟨rfl, rfl, rfl, by omega, fun k hk _ => Lib.bytesWorld_at_old w 5 s k hk⟩
  have hC := Lib.hid (fun j (hj : j < s.size) => Lib.bytesWorld_cell w 5 s j hj)
  have hF : ∀ j, j < s.size → (Lib.bytesWorld w 5 s).frozen? ⟨w.heap.size, j, none⟩ = false := by
    intro j hj
    have := Lib.bytesWorld_at_new w 5 s
    have hz : s.size ≤ (Lib.bytesCells w 5 s).size := by
      unfold Lib.bytesCells
      rw [Array.size_append, Array.size_map]
      exact Nat.le_add_right _ _
    simp only [World.frozen?, this]
    generalize (Lib.bytesCells w 5 s).size = z at hz
    have hn : ¬ z ≤ j := by omega
    simp [hn]
  have HF := Lib.hid hF
  clear hF hcv
  have HB := Lib.hid hB
  clear hB
  generalize Lib.bytesWorld w 5 s = w1 at *
  go_loopw [10] (fun i wr => ∃ k : Nat, k ≤ s.size ∧ i = .int .i64 k ∧ Hid (∀ j, j < s.size → wr.cell? ⟨w.heap.size, j, none⟩ = some (.int .u8 (if j < k then lowN (byteN s j) else byteN s j))) ∧ Hid (∀ j, j < s.size → wr.frozen? ⟨w.heap.size, j, none⟩ = false) ∧ Ext [] w wr ∧ w.heap.size < wr.heap.size) (fun i _ => s.size - (intOf i).toNat)
  case atStart =>
    exact ⟨0, Nat.zero_le _, rfl, fun j hj => by rw [hC.out j hj, if_neg (by omega)]; rfl, HF, hE, by have := HB.out; omega⟩
  case round =>
    obtain ⟨k, hk, rfl, hcr, hfr, her, hsz⟩ := hrel
    by_cases hlt : k < s.size
    · have hc := hcr.out k hlt
      rw [if_neg (by omega)] at hc
      have hf := hfr.out k hlt
      obtain ⟨b0, b1⟩ := byteN_bd s k
      have hln : (65 ≤ byteN s k ∧ byteN s k ≤ 90 → lowN (byteN s k) = byteN s k + 32) ∧ (¬ (65 ≤ byteN s k ∧ byteN s k ≤ 90) → lowN (byteN s k) = byteN s k) := ⟨fun h => if_pos h, fun h => if_neg h⟩
      have HL := Lib.hid hln
      clear hln
      generalize hb : byteN s k = b at *
      have Hb := Lib.hid hb
      clear hb
      go_wp2
      · have h1 : 65 ≤ b := by assumption
        have h2 : b ≤ 90 := by assumption
        have e1 : lowN b = b - 65 + 97 := by rw [HL.out.1 ⟨h1, h2⟩]; omega
        go_roundw
        case rel =>
          refine ⟨k + 1, by omega, by go_num, fun j hj => ?_, fun j hj => ?_, her.setCell (Or.inr (Nat.le_refl _)) _, by simpa [World.setCell] using hsz⟩
          · by_cases hjk : j = k
            · subst hjk
              rw [if_pos (by omega), Hb.out, e1]
              exact World.cell?_setCell_same wr _ _ hc
            · rw [World.cell?_setCell_other wr _ _ _ (by simp <;> omega), hcr.out j hj]
              by_cases hjl : j < k
              · rw [if_pos hjl, if_pos (by omega)]
              · rw [if_neg hjl, if_neg (by omega)]
          · simpa using hfr.out j hj
        case measure => simp [intOf]; omega
      all_goals
        have e1 : lowN b = b := HL.out.2 (by omega)
        go_roundw
        case rel =>
          refine ⟨k + 1, by omega, by go_num, fun j hj => ?_, hfr, her, hsz⟩
          rw [hcr.out j hj]
          by_cases hjk : j = k
          · subst hjk
            rw [if_neg (by omega), if_pos (by omega), Hb.out, e1]
          · by_cases hjl : j < k
            · rw [if_pos hjl, if_pos (by omega)]
            · rw [if_neg hjl, if_neg (by omega)]
        case measure => simp [intOf]; omega
    · obtain rfl : k = s.size := by omega
      have hcb := run_convert_bytes_arg (P := Try.prog) wr 27 5 Try.underlying27 Try.underlying5 w.heap.size 0 s.size (grownCap w s.size 0 5) ((List.range s.size).map fun j => lowN (byteN s j)) (by simp)
        (fun i hi => by rw [Nat.zero_add, hcr.out i hi, if_pos hi]; simp [List.getD_eq_getElem?_getD, hi]) 9 Try.underlying9
      rw [lowS_nums] at hcb
      have hd : decide (s.size < s.size) = false := by simp
      go_wp2
      go_ret
      exact ⟨rfl, her⟩
set_option maxHeartbeats 400000 in
theorem rlower_any (s : ByteArray) (hs : s.size ≤ 140737488351232) (w : World) :
    Calls Try.prog 71 #[.string s] w fun e w' => e = .returned (.string (lowS s)) ∧ Ext [] w w' := by
  have hcv := Lib.run_convert_string_bytes (P := Try.prog) w 9 27 5 s Try.underlying9 Try.underlying27 Try.underlying5
  go_enter Try.func71, Try.ntmps71
  go_wp2_with fail
  have hB := Lib.bytesWorld_size w 5 s
  have hE : Ext [] w (Lib.bytesWorld w 5 s) := ⟨rfl, rfl, rfl, by omega, fun k hk _ => Lib.bytesWorld_at_old w 5 s k hk⟩
  have hC := Lib.hid (fun j (hj : j < s.size) => Lib.bytesWorld_cell w 5 s j hj)
  have hF : ∀ j, j < s.size → (Lib.bytesWorld w 5 s).frozen? ⟨w.heap.size, j, none⟩ = false := by
    intro j hj
    have := Lib.bytesWorld_at_new w 5 s
    have hz : s.size ≤ (Lib.bytesCells w 5 s).size := by
      unfold Lib.bytesCells
      rw [Array.size_append, Array.size_map]
      exact Nat.le_add_right _ _
    simp only [World.frozen?, this]
    generalize (Lib.bytesCells w 5 s).size = z at hz
    have hn : ¬ z ≤ j := by omega
    simp [hn]
  have HF := Lib.hid hF
  clear hF hcv
  have HB := Lib.hid hB
  clear hB
  generalize Lib.bytesWorld w 5 s = w1 at *
  go_loopw [4] (fun i wr => ∃ k : Nat, k ≤ s.size ∧ i = .int .i64 k ∧ Hid (∀ j, j < s.size → wr.cell? ⟨w.heap.size, j, none⟩ = some (.int .u8 (if j < k then lowN (byteN s j) else byteN s j))) ∧ Hid (∀ j, j < s.size → wr.frozen? ⟨w.heap.size, j, none⟩ = false) ∧ Ext [] w wr ∧ w.heap.size < wr.heap.size) (fun i _ => s.size - (intOf i).toNat)
  case atStart =>
    exact ⟨0, Nat.zero_le _, rfl, fun j hj => by rw [hC.out j hj, if_neg (by omega)]; rfl, HF, hE, by have := HB.out; omega⟩
  case round =>
    obtain ⟨k, hk, rfl, hcr, hfr, her, hsz⟩ := hrel
    by_cases hlt : k < s.size
    · have hc := hcr.out k hlt
      rw [if_neg (by omega)] at hc
      have hf := hfr.out k hlt
      obtain ⟨b0, b1⟩ := byteN_bd s k
      have hln : (65 ≤ byteN s k ∧ byteN s k ≤ 90 → lowN (byteN s k) = byteN s k + 32) ∧ (¬ (65 ≤ byteN s k ∧ byteN s k ≤ 90) → lowN (byteN s k) = byteN s k) := ⟨fun h => if_pos h, fun h => if_neg h⟩
      have HL := Lib.hid hln
      clear hln
      generalize hb : byteN s k = b at *
      have Hb := Lib.hid hb
      clear hb
      go_wp2
      · have h1 : 65 ≤ b := by assumption
        have h2 : b ≤ 90 := by assumption
        have e1 : lowN b = b + 32 := HL.out.1 ⟨h1, h2⟩
        go_roundw
        case rel =>
          refine ⟨k + 1, by omega, by go_num, fun j hj => ?_, fun j hj => ?_, her.setCell (Or.inr (Nat.le_refl _)) _, by simpa [World.setCell] using hsz⟩
          · by_cases hjk : j = k
            · subst hjk
              rw [if_pos (by omega), Hb.out, e1]
              exact World.cell?_setCell_same wr _ _ hc
            · rw [World.cell?_setCell_other wr _ _ _ (by simp <;> omega), hcr.out j hj]
              by_cases hjl : j < k
              · rw [if_pos hjl, if_pos (by omega)]
              · rw [if_neg hjl, if_neg (by omega)]
          · simpa using hfr.out j hj
        case measure => simp [intOf]; omega
      all_goals
        have e1 : lowN b = b := HL.out.2 (by omega)
        go_roundw
        case rel =>
          refine ⟨k + 1, by omega, by go_num, fun j hj => ?_, hfr, her, hsz⟩
          rw [hcr.out j hj]
          by_cases hjk : j = k
          · subst hjk
            rw [if_neg (by omega), if_pos (by omega), Hb.out, e1]
          · by_cases hjl : j < k
            · rw [if_pos hjl, if_pos (by omega)]
            · rw [if_neg hjl, if_neg (by omega)]
        case measure => simp [intOf]; omega
    · obtain rfl : k = s.size := by omega
      have hcb := run_convert_bytes_arg (P := Try.prog) wr 27 5 Try.underlying27 Try.underlying5 w.heap.size 0 s.size (grownCap w s.size 0 5) ((List.range s.size).map fun j => lowN (byteN s j)) (by simp)
        (fun i hi => by rw [Nat.zero_add, hcr.out i hi, if_pos hi]; simp [List.getD_eq_getElem?_getD, hi]) 9 Try.underlying9
      rw [lowS_nums] at hcb
      have hd : decide (s.size < s.size) = false := by simp
      go_wp2
      go_ret
      exact ⟨rfl, her⟩

/-! ### Fold, Token -/
def foldB (a b : ByteArray) : Bool := (lowS a).toList == (lowS b).toList

set_option maxHeartbeats 400000 in
theorem fold_any (a b : ByteArray) (ha : a.size ≤ 140737488351232) (hb : b.size ≤ 140737488351232) (w : World) :
    Calls Try.prog 85 #[.string a, .string b] w fun e w' => e = .returned (.bool (foldB a b)) ∧ Ext [] w w' := by
  unfold foldB
  go_enter Try.func85, Try.ntmps85
  go_wp2_with fail
  refine (lower_any a ha _).mono ?_
  rintro e w1 ⟨rfl, h1⟩
  go_wp2_with fail
  refine (lower_any b hb _).mono ?_
  rintro e w2 ⟨rfl, h2⟩
  go_wp2
  go_ret
  exact ⟨rfl, h1.trans h2 (by simp)⟩

set_option maxHeartbeats 400000 in
theorem rfold_any (a b : ByteArray) (ha : a.size ≤ 140737488351232) (hb : b.size ≤ 140737488351232) (w : World) :
    Calls Try.prog 86 #[.string a, .string b] w fun e w' => e = .returned (.bool (foldB a b)) ∧ Ext [] w w' := by
  unfold foldB
  go_enter Try.func86, Try.ntmps86
  go_wp2_with fail
  refine (rlower_any a ha _).mono ?_
  rintro e w1 ⟨rfl, h1⟩
  go_wp2_with fail
  refine (rlower_any b hb _).mono ?_
  rintro e w2 ⟨rfl, h2⟩
  go_wp2
  go_ret
  exact ⟨rfl, h1.trans h2 (by simp)⟩

end Go.Proofs.Ytkbjpackijdnkaa
