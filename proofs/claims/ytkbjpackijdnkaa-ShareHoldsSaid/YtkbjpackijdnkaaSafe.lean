/- Safe of the methods, and the reference's, by contract. -/
import Derived.Test.YtkbjpackijdnkaaOctet
namespace Go.Proofs.Ytkbjpackijdnkaa
open Go.RowKit

/-! ### The names of methods -/
def m0 : ByteArray := ⟨#[68, 69, 76, 69, 84, 69]⟩
def m1 : ByteArray := ⟨#[71, 69, 84]⟩
def m2 : ByteArray := ⟨#[72, 69, 65, 68]⟩
def m3 : ByteArray := ⟨#[79, 80, 84, 73, 79, 78, 83]⟩
def m4 : ByteArray := ⟨#[80, 79, 83, 84]⟩
def m5 : ByteArray := ⟨#[80, 85, 84]⟩
def names : List ByteArray := [m0, m1, m2, m3, m4, m5]
def nameAt (k : Nat) : ByteArray := names.getD k m0
def knownS (s : ByteArray) : ByteArray := (names.find? fun m => foldB s m).getD ⟨#[]⟩

set_option maxHeartbeats 1600000 in
theorem known_any (s : ByteArray) (hs : s.size ≤ 140737488351232) (w : World) :
    Calls Try.prog 82 #[.string s] w fun e w' => e = .returned (.string (knownS s)) ∧ Ext [] w w' := by
  have ix : ∀ k : Nat, k < 6 → ∀ w : World, (Instr.index 124 (.agg #[.string ⟨#[68, 69, 76, 69, 84, 69]⟩, .string ⟨#[71, 69, 84]⟩, .string ⟨#[72, 69, 65, 68]⟩, .string ⟨#[79, 80, 84, 73, 79, 78, 83]⟩, .string ⟨#[80, 79, 83, 84]⟩, .string ⟨#[80, 85, 84]⟩]) (.int .i64 k)).run Try.prog w = .ok (.string (nameAt k)) w := by
    intro k hk w
    obtain rfl | rfl | rfl | rfl | rfl | rfl : k = 0 ∨ k = 1 ∨ k = 2 ∨ k = 3 ∨ k = 4 ∨ k = 5 := by omega
    all_goals kernel_rfl
  have IX := Lib.hid ix
  clear ix
  go_enter Try.func82, Try.ntmps82
  go_wp2
  go_loopw [6] (fun i wr => ∃ k : Nat, k ≤ 6 ∧ i = .int .i64 k ∧ Ext [] w wr ∧ Hid ((names.take k).find? (fun m => foldB s m) = none)) (fun i _ => 6 - (intOf i).toNat)
  case atStart => exact ⟨0, Nat.zero_le _, rfl, Ext.refl _ _, rfl⟩
  case round =>
    obtain ⟨k, hk, rfl, her, hno⟩ := hrel
    by_cases hlt : k < 6
    · have ik := IX.out k hlt
      have hlt' : (k : Int) < 6 := by omega
      have hsz : (nameAt k).size ≤ 140737488351232 := by
        obtain rfl | rfl | rfl | rfl | rfl | rfl : k = 0 ∨ k = 1 ∨ k = 2 ∨ k = 3 ∨ k = 4 ∨ k = 5 := by omega
        all_goals decide
      go_wp2_with fail
      refine (fold_any s (nameAt k) hs hsz _).mono ?_
      have hn : names.take (k + 1) = names.take k ++ [nameAt k] := by
        obtain rfl | rfl | rfl | rfl | rfl | rfl : k = 0 ∨ k = 1 ∨ k = 2 ∨ k = 3 ∨ k = 4 ∨ k = 5 := by omega
        all_goals rfl
      have HN := Lib.hid hn
      clear hn
      cases hf : foldB s (nameAt k)
      · rintro e w1 ⟨rfl, h1⟩
        have HF := Lib.hid hf
        clear hf
        go_wp2
        go_roundw
        case rel => exact ⟨k + 1, by omega, by go_num, her.trans h1 (by simp), by show _ = _; rw [HN.out, List.find?_append, hno.out]; simp [HF.out]⟩
        case measure => simp [intOf]; omega
      · have hres : knownS s = nameAt k := by
          unfold knownS
          have e1 : names = names.take (k + 1) ++ names.drop (k + 1) := (List.take_append_drop _ _).symm
          rw [e1, List.find?_append, HN.out, List.find?_append, hno.out]
          simp [hf]
        have HR := Lib.hid hres
        clear hf hres
        rintro e w1 ⟨rfl, h1⟩
        go_wp2
        go_ret
        exact ⟨ret_str HR.out, her.trans h1 (by simp)⟩
    · obtain rfl : k = 6 := by omega
      have hres : knownS s = ⟨#[]⟩ := by
        unfold knownS
        rw [show names = names.take 6 from rfl, hno.out]
        rfl
      have HR := Lib.hid hres
      clear hres
      go_wp2
      go_ret
      exact ⟨ret_str HR.out, her⟩
def safeS (s : ByteArray) : Bool := (knownS s).toList == m1.toList || ((knownS s).toList == m2.toList || (knownS s).toList == m4.toList)

theorem m1_list : m1.toList = [71, 69, 84] := by rw [ByteArray.toList_eq]; rfl
theorem m2_list : m2.toList = [72, 69, 65, 68] := by rw [ByteArray.toList_eq]; rfl
theorem m4_list : m4.toList = [80, 79, 83, 84] := by rw [ByteArray.toList_eq]; rfl

set_option maxHeartbeats 800000 in
theorem safe_any (s : ByteArray) (hs : s.size ≤ 140737488351232) (w : World) :
    Calls Try.prog 69 #[.string s] w fun e w' => e = .returned (.bool (safeS s)) ∧ Ext [] w w' := by
  have C := Lib.hid (known_any s hs w)
  unfold safeS
  rw [m1_list, m2_list, m4_list]
  generalize knownS s = k at *
  go_enter Try.func69, Try.ntmps69
  go_wp2_with (go_at_call 82; refine C.out.mono ?_; rintro e w1 ⟨rfl, hx⟩)
  all_goals (go_ret; exact ⟨ret_bool (by simp_all), hx⟩)

/-! ### The reference's Norm and Safe -/
def rnormS (s : ByteArray) : ByteArray := (names.find? fun m => foldB s m).getD s

set_option maxHeartbeats 1600000 in
theorem rnorm_any (s : ByteArray) (hs : s.size ≤ 140737488351232) (w : World) :
    Calls Try.prog 83 #[.string s] w fun e w' => e = .returned (.string (rnormS s)) ∧ Ext [] w w' := by
  go_enter Try.func83, Try.ntmps83
  go_wp2_with fail
  generalize hW : World.alloc w _ = w1
  have hb : Blk w1 w.heap.size #[.string m0, .string m1, .string m2, .string m3, .string m4, .string m5] 124 := by subst hW; exact Blk.new _ _ _
  have he : Ext [] w w1 := by subst hW; exact (Ext.refl _ _).alloc _
  clear hW
  have hcs : ∀ k : Nat, k < 6 → w1.cell? ⟨w.heap.size, k, none⟩ = some (.string (nameAt k)) := by
    intro k hk
    rw [hb.cell k]
    obtain rfl | rfl | rfl | rfl | rfl | rfl : k = 0 ∨ k = 1 ∨ k = 2 ∨ k = 3 ∨ k = 4 ∨ k = 5 := by omega
    all_goals rfl
  have HC := Lib.hid hcs
  have hlt := hb.lt
  clear hcs hb
  go_loopw [4] (fun i wr => ∃ k : Nat, k ≤ 6 ∧ i = .int .i64 k ∧ Ext [] w1 wr ∧ Hid ((names.take k).find? (fun m => foldB s m) = none)) (fun i _ => 6 - (intOf i).toNat)
  case atStart => exact ⟨0, Nat.zero_le _, rfl, Ext.refl _ _, rfl⟩
  case round =>
    obtain ⟨k, hk, rfl, her, hno⟩ := hrel
    by_cases hlt6 : k < 6
    · have ik : wr.cell? ⟨w.heap.size, k, none⟩ = some (.string (nameAt k)) := (her.cell (p := ⟨w.heap.size, k, none⟩) hlt (by simp)).trans (HC.out k hlt6)
      have hlt' : (k : Int) < 6 := by omega
      have hsz : (nameAt k).size ≤ 140737488351232 := by
        obtain rfl | rfl | rfl | rfl | rfl | rfl : k = 0 ∨ k = 1 ∨ k = 2 ∨ k = 3 ∨ k = 4 ∨ k = 5 := by omega
        all_goals decide
      go_wp2_with fail
      refine (rfold_any s (nameAt k) hs hsz _).mono ?_
      have hn : names.take (k + 1) = names.take k ++ [nameAt k] := by
        obtain rfl | rfl | rfl | rfl | rfl | rfl : k = 0 ∨ k = 1 ∨ k = 2 ∨ k = 3 ∨ k = 4 ∨ k = 5 := by omega
        all_goals rfl
      have HN := Lib.hid hn
      clear hn
      cases hf : foldB s (nameAt k)
      · rintro e w2 ⟨rfl, h1⟩
        have HF := Lib.hid hf
        clear hf
        go_wp2
        go_roundw
        case rel => exact ⟨k + 1, by omega, by go_num, her.trans h1 (by simp), by show _ = _; rw [HN.out, List.find?_append, hno.out]; simp [HF.out]⟩
        case measure => simp [intOf]; omega
      · have hres : rnormS s = nameAt k := by
          unfold rnormS
          have e1 : names = names.take (k + 1) ++ names.drop (k + 1) := (List.take_append_drop _ _).symm
          rw [e1, List.find?_append, HN.out, List.find?_append, hno.out]
          simp [hf]
        have HR := Lib.hid hres
        clear hf hres
        rintro e w2 ⟨rfl, h1⟩
        have ik2 : w2.cell? ⟨w.heap.size, k, none⟩ = some (.string (nameAt k)) := ((her.trans h1 (by simp)).cell (p := ⟨w.heap.size, k, none⟩) hlt (by simp)).trans (HC.out k hlt6)
        go_wp2
        go_ret
        exact ⟨ret_str HR.out, he.trans (her.trans h1 (by simp)) (by simp)⟩
    · obtain rfl : k = 6 := by omega
      have hres : rnormS s = s := by
        unfold rnormS
        rw [show names = names.take 6 from rfl, hno.out]
        rfl
      have HR := Lib.hid hres
      clear hres
      go_wp2
      go_ret
      exact ⟨ret_str HR.out, he.trans her (by simp)⟩

def rsafeS (s : ByteArray) : Bool := (rnormS s).toList == m1.toList || ((rnormS s).toList == m2.toList || (rnormS s).toList == m4.toList)

set_option maxHeartbeats 800000 in
theorem rsafe_any (s : ByteArray) (hs : s.size ≤ 140737488351232) (w : World) :
    Calls Try.prog 70 #[.string s] w fun e w' => e = .returned (.bool (rsafeS s)) ∧ Ext [] w w' := by
  have C := Lib.hid (rnorm_any s hs w)
  unfold rsafeS
  rw [m1_list, m2_list, m4_list]
  generalize rnormS s = k at *
  cases h1 : k.toList == [71, 69, 84] <;> cases h2 : k.toList == [72, 69, 65, 68]
  all_goals
    go_enter Try.func70, Try.ntmps70
    go_wp2_with (go_at_call 83; refine C.out.mono ?_; rintro e w1 ⟨rfl, hx⟩)
    go_ret
    exact ⟨ret_bool (by simp), hx⟩
end Go.Proofs.Ytkbjpackijdnkaa
