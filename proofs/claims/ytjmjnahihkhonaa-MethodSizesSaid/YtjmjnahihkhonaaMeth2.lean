/- Norm, Bars, Check, Safe, and the reference's, by contract. -/
import Derived.Test.YtjmjnahihkhonaaMeth
namespace Go.Proofs.Ytjmjnahihkhonaa
open Go.RowKit

def normS (s : ByteArray) : ByteArray := if (knownS s).toList.isEmpty then s else knownS s
def b0 : ByteArray := ⟨#[67, 79, 78, 78, 69, 67, 84]⟩
def b1 : ByteArray := ⟨#[84, 82, 65, 67, 69]⟩
def b2 : ByteArray := ⟨#[84, 82, 65, 67, 75]⟩
def barsS (s : ByteArray) : Bool := foldB s b0 || (foldB s b1 || foldB s b2)
def checkS (s : ByteArray) : Int := if (!tokS s || (decide (32 < s.size) || barsS s)) = true then 5 else 0
def safeS (s : ByteArray) : Bool := (knownS s).toList == m1.toList || ((knownS s).toList == m2.toList || (knownS s).toList == m4.toList)

set_option maxHeartbeats 400000 in
theorem norm_any (s : ByteArray) (hs : s.size ≤ 140737488351232) (w : World) :
    Calls Try.prog 9 #[.string s] w fun e w' => e = .returned (.string (normS s)) ∧ Ext [] w w' := by
  unfold normS
  have C := Lib.hid (known_any s hs w)
  cases h : (knownS s).toList.isEmpty
  · go_enter Try.func9, Try.ntmps9
    go_wp2_with (go_at_call 20; refine C.out.mono ?_; rintro e w' ⟨rfl, h1⟩)
    go_ret
    exact ⟨rfl, h1⟩
  · go_enter Try.func9, Try.ntmps9
    go_wp2_with (go_at_call 20; refine C.out.mono ?_; rintro e w' ⟨rfl, h1⟩)
    go_ret
    exact ⟨rfl, h1⟩

set_option maxHeartbeats 800000 in
theorem bars_any (s : ByteArray) (hs : s.size ≤ 140737488351232) (w : World) :
    Calls Try.prog 11 #[.string s] w fun e w' => e = .returned (.bool (barsS s)) ∧ Ext [] w w' := by
  have hd : barsS s = (foldB s b0 || (foldB s b1 || foldB s b2)) := rfl
  have HD := Lib.hid hd
  clear hd
  go_enter Try.func11, Try.ntmps11
  go_wp2_with fail
  refine (fold_any s b0 hs (by decide) _).mono ?_
  cases h0 : foldB s b0
  · rintro e w1 ⟨rfl, h1⟩
    have H0 := Lib.hid h0
    clear h0
    go_wp2_with fail
    refine (fold_any s b1 hs (by decide) _).mono ?_
    cases h0 : foldB s b1
    · rintro e w2 ⟨rfl, h2⟩
      have H1 := Lib.hid h0
      clear h0
      go_wp2_with fail
      refine (fold_any s b2 hs (by decide) _).mono ?_
      rintro e w3 ⟨rfl, h3⟩
      go_wp2
      go_ret
      exact ⟨ret_bool (by rw [HD.out, H0.out, H1.out]; rfl), (h1.trans h2 (by simp)).trans h3 (by simp)⟩
    · rintro e w2 ⟨rfl, h2⟩
      have H1 := Lib.hid h0
      clear h0
      go_wp2
      go_ret
      exact ⟨ret_bool (by rw [HD.out, H0.out, H1.out]; rfl), h1.trans h2 (by simp)⟩
  · rintro e w1 ⟨rfl, h1⟩
    have H0 := Lib.hid h0
    clear h0
    go_wp2
    go_ret
    exact ⟨ret_bool (by rw [HD.out, H0.out]; rfl), h1⟩

set_option maxHeartbeats 800000 in
theorem rbars_any (s : ByteArray) (hs : s.size ≤ 140737488351232) (w : World) :
    Calls Try.prog 12 #[.string s] w fun e w' => e = .returned (.bool (barsS s)) ∧ Ext [] w w' := by
  have hd : barsS s = (foldB s b0 || (foldB s b1 || foldB s b2)) := rfl
  have HD := Lib.hid hd
  clear hd
  go_enter Try.func12, Try.ntmps12
  go_wp2_with fail
  refine (rfold_any s b0 hs (by decide) _).mono ?_
  cases h0 : foldB s b0
  · rintro e w1 ⟨rfl, h1⟩
    have H0 := Lib.hid h0
    clear h0
    go_wp2_with fail
    refine (rfold_any s b1 hs (by decide) _).mono ?_
    cases h0 : foldB s b1
    · rintro e w2 ⟨rfl, h2⟩
      have H1 := Lib.hid h0
      clear h0
      go_wp2_with fail
      refine (rfold_any s b2 hs (by decide) _).mono ?_
      rintro e w3 ⟨rfl, h3⟩
      go_wp2
      go_ret
      exact ⟨ret_bool (by rw [HD.out, H0.out, H1.out]; rfl), (h1.trans h2 (by simp)).trans h3 (by simp)⟩
    · rintro e w2 ⟨rfl, h2⟩
      have H1 := Lib.hid h0
      clear h0
      go_wp2
      go_ret
      exact ⟨ret_bool (by rw [HD.out, H0.out, H1.out]; rfl), h1.trans h2 (by simp)⟩
  · rintro e w1 ⟨rfl, h1⟩
    have H0 := Lib.hid h0
    clear h0
    go_wp2
    go_ret
    exact ⟨ret_bool (by rw [HD.out, H0.out]; rfl), h1⟩

set_option maxHeartbeats 800000 in
theorem check_any (s : ByteArray) (hs : s.size ≤ 140737488351232) (w : World) :
    Calls Try.prog 13 #[.string s] w fun e w' => e = .returned (.int .i64 (checkS s)) ∧ Ext [] w w' := by
  have T := Lib.hid (token_any s hs w)
  have B := Lib.hid (bars_any s hs w)
  have hd : checkS s = if (!tokS s || (decide (32 < s.size) || barsS s)) = true then 5 else 0 := rfl
  have HD := Lib.hid hd
  clear hd
  cases h0 : tokS s
  · rw [h0] at T HD
    clear h0
    go_enter Try.func13, Try.ntmps13
    go_wp2_with (go_at_call 23; refine T.out.mono ?_; rintro e w1 ⟨rfl, rfl⟩)
    go_ret
    exact ⟨ret_int (by rw [HD.out]; rfl), Ext.refl _ _⟩
  · rw [h0] at T HD
    clear h0
    by_cases h1 : 32 < s.size
    · have hq : decide ((32 : Int) < (s.size : Int)) = true := decide_eq_true (by omega)
      rw [decide_eq_true h1] at HD
      clear h1
      go_enter Try.func13, Try.ntmps13
      go_wp2_with (go_at_call 23; refine T.out.mono ?_; rintro e w1 ⟨rfl, rfl⟩)
      go_ret
      exact ⟨ret_int (by rw [HD.out]; rfl), Ext.refl _ _⟩
    · have hq : decide ((32 : Int) < (s.size : Int)) = false := decide_eq_false (by omega)
      rw [decide_eq_false h1] at HD
      clear h1
      cases h2 : barsS s
      · rw [h2] at B HD
        clear h2
        go_enter Try.func13, Try.ntmps13
        go_wp2_with (first | (go_at_call 23; refine T.out.mono ?_; rintro e w1 ⟨rfl, rfl⟩) | (go_at_call 11; refine B.out.mono ?_; rintro e w1 ⟨rfl, hx⟩))
        go_ret
        exact ⟨ret_int (by rw [HD.out]; rfl), hx⟩
      · rw [h2] at B HD
        clear h2
        go_enter Try.func13, Try.ntmps13
        go_wp2_with (first | (go_at_call 23; refine T.out.mono ?_; rintro e w1 ⟨rfl, rfl⟩) | (go_at_call 11; refine B.out.mono ?_; rintro e w1 ⟨rfl, hx⟩))
        go_ret
        exact ⟨ret_int (by rw [HD.out]; rfl), hx⟩

set_option maxHeartbeats 800000 in
theorem rcheck_any (s : ByteArray) (hs : s.size ≤ 140737488351232) (w : World) :
    Calls Try.prog 14 #[.string s] w fun e w' => e = .returned (.int .i64 (checkS s)) ∧ Ext [] w w' := by
  have T := Lib.hid (rtoken_any s hs w)
  have B := Lib.hid (rbars_any s hs w)
  have hd : checkS s = if (!tokS s || (decide (32 < s.size) || barsS s)) = true then 5 else 0 := rfl
  have HD := Lib.hid hd
  clear hd
  by_cases h1 : 32 < s.size
  · have hq : decide ((32 : Int) < (s.size : Int)) = true := decide_eq_true (by omega)
    rw [decide_eq_true h1] at HD
    clear h1
    go_enter Try.func14, Try.ntmps14
    go_wp2
    go_ret
    exact ⟨ret_int (by rw [HD.out]; simp), Ext.refl _ _⟩
  · have hq : decide ((32 : Int) < (s.size : Int)) = false := decide_eq_false (by omega)
    rw [decide_eq_false h1] at HD
    clear h1
    cases h0 : tokS s
    · rw [h0] at T HD
      clear h0
      go_enter Try.func14, Try.ntmps14
      go_wp2_with (go_at_call 24; refine T.out.mono ?_; rintro e w1 ⟨rfl, rfl⟩)
      go_ret
      exact ⟨ret_int (by rw [HD.out]; rfl), Ext.refl _ _⟩
    · rw [h0] at T HD
      clear h0
      cases h2 : barsS s
      · rw [h2] at B HD
        clear h2
        go_enter Try.func14, Try.ntmps14
        go_wp2_with (first | (go_at_call 24; refine T.out.mono ?_; rintro e w1 ⟨rfl, rfl⟩) | (go_at_call 12; refine B.out.mono ?_; rintro e w1 ⟨rfl, hx⟩))
        go_ret
        exact ⟨ret_int (by rw [HD.out]; rfl), hx⟩
      · rw [h2] at B HD
        clear h2
        go_enter Try.func14, Try.ntmps14
        go_wp2_with (first | (go_at_call 24; refine T.out.mono ?_; rintro e w1 ⟨rfl, rfl⟩) | (go_at_call 12; refine B.out.mono ?_; rintro e w1 ⟨rfl, hx⟩))
        go_ret
        exact ⟨ret_int (by rw [HD.out]; rfl), hx⟩

theorem m1_list : m1.toList = [71, 69, 84] := by rw [ByteArray.toList_eq]; rfl
theorem m2_list : m2.toList = [72, 69, 65, 68] := by rw [ByteArray.toList_eq]; rfl
theorem m4_list : m4.toList = [80, 79, 83, 84] := by rw [ByteArray.toList_eq]; rfl

set_option maxHeartbeats 800000 in
theorem safe_any (s : ByteArray) (hs : s.size ≤ 140737488351232) (w : World) :
    Calls Try.prog 15 #[.string s] w fun e w' => e = .returned (.bool (safeS s)) ∧ Ext [] w w' := by
  have C := Lib.hid (known_any s hs w)
  unfold safeS
  rw [m1_list, m2_list, m4_list]
  generalize knownS s = k at *
  go_enter Try.func15, Try.ntmps15
  go_wp2_with (go_at_call 20; refine C.out.mono ?_; rintro e w1 ⟨rfl, hx⟩)
  all_goals (go_ret; exact ⟨ret_bool (by simp_all), hx⟩)

/-! ### The reference's Norm and Safe -/
def rnormS (s : ByteArray) : ByteArray := (names.find? fun m => foldB s m).getD s

set_option maxHeartbeats 1600000 in
theorem rnorm_any (s : ByteArray) (hs : s.size ≤ 140737488351232) (w : World) :
    Calls Try.prog 10 #[.string s] w fun e w' => e = .returned (.string (rnormS s)) ∧ Ext [] w w' := by
  go_enter Try.func10, Try.ntmps10
  go_wp2_with fail
  generalize hW : World.alloc w _ = w1
  have hb : Blk w1 w.heap.size #[.string m0, .string m1, .string m2, .string m3, .string m4, .string m5] 29 := by subst hW; exact Blk.new _ _ _
  have he : Ext [] w w1 := by subst hW; exact (Ext.refl _ _).alloc _
  clear hW
  have hcs : ∀ k : Nat, k < 6 → w1.cell? ⟨w.heap.size, k, none⟩ = some (.string (nameAt k)) := by
    intro k hk
    rw [hb.cell k]
    obtain rfl | rfl | rfl | rfl | rfl | rfl : k = 0 ∨ k = 1 ∨ k = 2 ∨ k = 3 ∨ k = 4 ∨ k = 5 := by omega
    all_goals rfl
  have HC := Lib.hid hcs
  have hlt := hb.lt
  clear hcs hb
  go_loopw [4] (fun i wr => ∃ k : Nat, k ≤ 6 ∧ i = .int .i64 k ∧ Ext [] w1 wr ∧ Hid ((names.take k).find? (fun m => foldB s m) = none)) (fun i _ => 6 - (intOf i).toNat)
  case atStart => exact ⟨0, Nat.zero_le _, rfl, Ext.refl _ _, rfl⟩
  case round =>
    obtain ⟨k, hk, rfl, her, hno⟩ := hrel
    by_cases hlt6 : k < 6
    · have ik : wr.cell? ⟨w.heap.size, k, none⟩ = some (.string (nameAt k)) := (her.cell (p := ⟨w.heap.size, k, none⟩) hlt (by simp)).trans (HC.out k hlt6)
      have hlt' : (k : Int) < 6 := by omega
      have hsz : (nameAt k).size ≤ 140737488351232 := by
        obtain rfl | rfl | rfl | rfl | rfl | rfl : k = 0 ∨ k = 1 ∨ k = 2 ∨ k = 3 ∨ k = 4 ∨ k = 5 := by omega
        all_goals decide
      go_wp2_with fail
      refine (rfold_any s (nameAt k) hs hsz _).mono ?_
      have hn : names.take (k + 1) = names.take k ++ [nameAt k] := by
        obtain rfl | rfl | rfl | rfl | rfl | rfl : k = 0 ∨ k = 1 ∨ k = 2 ∨ k = 3 ∨ k = 4 ∨ k = 5 := by omega
        all_goals rfl
      have HN := Lib.hid hn
      clear hn
      cases hf : foldB s (nameAt k)
      · rintro e w2 ⟨rfl, h1⟩
        have HF := Lib.hid hf
        clear hf
        go_wp2
        go_roundw
        case rel => exact ⟨k + 1, by omega, by go_num, her.trans h1 (by simp), by show _ = _; rw [HN.out, List.find?_append, hno.out]; simp [HF.out]⟩
        case measure => simp [intOf]; omega
      · have hres : rnormS s = nameAt k := by
          unfold rnormS
          have e1 : names = names.take (k + 1) ++ names.drop (k + 1) := (List.take_append_drop _ _).symm
          rw [e1, List.find?_append, HN.out, List.find?_append, hno.out]
          simp [hf]
        have HR := Lib.hid hres
        clear hf hres
        rintro e w2 ⟨rfl, h1⟩
        have ik2 : w2.cell? ⟨w.heap.size, k, none⟩ = some (.string (nameAt k)) := ((her.trans h1 (by simp)).cell (p := ⟨w.heap.size, k, none⟩) hlt (by simp)).trans (HC.out k hlt6)
        go_wp2
        go_ret
        exact ⟨ret_str HR.out, he.trans (her.trans h1 (by simp)) (by simp)⟩
    · obtain rfl : k = 6 := by omega
      have hres : rnormS s = s := by
        unfold rnormS
        rw [show names = names.take 6 from rfl, hno.out]
        rfl
      have HR := Lib.hid hres
      clear hres
      go_wp2
      go_ret
      exact ⟨ret_str HR.out, he.trans her (by simp)⟩

def rsafeS (s : ByteArray) : Bool := (rnormS s).toList == m1.toList || ((rnormS s).toList == m2.toList || (rnormS s).toList == m4.toList)

set_option maxHeartbeats 800000 in
theorem rsafe_any (s : ByteArray) (hs : s.size ≤ 140737488351232) (w : World) :
    Calls Try.prog 16 #[.string s] w fun e w' => e = .returned (.bool (rsafeS s)) ∧ Ext [] w w' := by
  have C := Lib.hid (rnorm_any s hs w)
  unfold rsafeS
  rw [m1_list, m2_list, m4_list]
  generalize rnormS s = k at *
  cases h1 : k.toList == [71, 69, 84] <;> cases h2 : k.toList == [72, 69, 65, 68]
  all_goals
    go_enter Try.func16, Try.ntmps16
    go_wp2_with (go_at_call 10; refine C.out.mono ?_; rintro e w1 ⟨rfl, hx⟩)
    go_ret
    exact ⟨ret_bool (by simp), hx⟩
end Go.Proofs.Ytjmjnahihkhonaa
