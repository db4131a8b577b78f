/- Token and the methods' functions, by contract. -/
import Derived.Test.YtjmjnahihkhonaaOctet
namespace Go.Proofs.Ytjmjnahihkhonaa
open Go.RowKit

def marks : ByteArray := ⟨#[33, 35, 36, 37, 38, 39, 42, 43, 45, 46, 94, 95, 96, 124, 126]⟩
def rmarks : ByteArray := ⟨#[33, 35, 36, 37, 38, 39, 42, 43, 45, 46, 94, 95, 124, 126]⟩
def idxN (s : ByteArray) (c : Int) : Int := firstIdx s c.toNat.toUInt8

set_option maxHeartbeats 400000 in
theorem slIndexByte_any (s : ByteArray) (c : Int) (w : World) :
    Calls Try.prog 32 #[.string s, .int .u8 c] w fun e w' => e = .returned (.int .i64 (idxN s c)) ∧ w = w' := by
  have hx : ∀ w, (callFunc 33 #[.string s, .int .u8 c]).run Try.prog w = .ok (.value (.int .i64 (idxN s c))) w := by
    intro w
    rw [run_callFunc_indexByte Try.func33 (by kernel_rfl) (by kernel_rfl) (by kernel_rfl) (by kernel_rfl), run_indexByte_string]
    rfl
  go_enter Try.func32, Try.ntmps32
  go_wp2
  go_ret
  exact ⟨rfl, rfl⟩

set_option maxHeartbeats 400000 in
theorem indexByte_any (s : ByteArray) (c : Int) (w : World) :
    Calls Try.prog 29 #[.string s, .int .u8 c] w fun e w' => e = .returned (.int .i64 (idxN s c)) ∧ w = w' := by
  go_enter Try.func29, Try.ntmps29
  go_wp2_with (go_at_call 32; refine (slIndexByte_any s c _).mono ?_; rintro e w' ⟨rfl, rfl⟩)
  go_ret
  exact ⟨rfl, rfl⟩

theorem byteN_at (s : ByteArray) (k : Nat) (h : k < s.size) : ((s[k]'h).toNat : Int) = byteN s k := by
  unfold byteN
  have h' : k < s.data.toList.length := by rw [size_toList]; exact h
  rw [List.getD_eq_getElem?_getD, List.getElem?_eq_getElem h', Option.getD_some]
  rfl

def inB (s : ByteArray) (c : Int) : Bool := (List.range s.size).any fun j => byteN s j == c

theorem range_all_succ (n : Nat) (p : Nat → Bool) : (List.range (n + 1)).all p = ((List.range n).all p && p n) := by
  rw [List.range_succ, List.all_append]; simp
theorem range_any_succ (n : Nat) (p : Nat → Bool) : (List.range (n + 1)).any p = ((List.range n).any p || p n) := by
  rw [List.range_succ, List.any_append]; simp

set_option maxHeartbeats 400000 in
theorem in_any (s : ByteArray) (hs : s.size ≤ 140737488351232) (c : Int) (w : World) :
    Calls Try.prog 31 #[.int .u8 c, .string s] w fun e w' => e = .returned (.bool (inB s c)) ∧ w = w' := by
  go_enter Try.func31, Try.ntmps31
  go_wp2
  go_loop [5] (fun i => ∃ k : Nat, k ≤ s.size ∧ i = .int .i64 k ∧ Hid ((List.range k).any (fun j => byteN s j == c) = false)) (fun i => s.size - (intOf i).toNat)
  case atStart => exact ⟨0, Nat.zero_le _, rfl, rfl⟩
  case round =>
    obtain ⟨k, hk, rfl, hno⟩ := hrel
    by_cases hlt : k < s.size
    · have hb := byteN_at s k hlt
      by_cases he : byteN s k = c
      · have hq : (byteN s k == c) = true := by simpa using he
        have hres : inB s c = true := by
          unfold inB
          rw [List.any_eq_true]
          exact ⟨k, List.mem_range.2 hlt, hq⟩
        have HR := Lib.hid hres
        clear hres he
        go_wp2
        go_ret
        exact ⟨ret_bool HR.out, rfl⟩
      · have hq : (byteN s k == c) = false := by simpa using he
        have HQ := Lib.hid hq
        go_wp2
        go_round
        case rel => exact ⟨k + 1, by omega, by go_num, by show _ = _; rw [range_any_succ, hno.out, HQ.out]; rfl⟩
        case measure => simp [intOf]; omega
    · obtain rfl : k = s.size := by omega
      have hd : decide (s.size < s.size) = false := by simp
      go_wp2
      go_ret
      exact ⟨ret_bool (show inB s c = false from hno.out), rfl⟩

def markN (c : Int) : Bool := decide (0 ≤ idxN marks c)
def tokN (c : Int) : Bool := letterN c || (digitN c || markN c)
def tokS (s : ByteArray) : Bool := (List.range s.size).all (fun j => tokN (byteN s j)) && !s.toList.isEmpty

set_option maxHeartbeats 800000 in
theorem token_any (s : ByteArray) (hs : s.size ≤ 140737488351232) (w : World) :
    Calls Try.prog 23 #[.string s] w fun e w' => e = .returned (.bool (tokS s)) ∧ w = w' := by
  go_enter Try.func23, Try.ntmps23
  go_wp2
  go_loopw [6] (fun i wr => ∃ k : Nat, k ≤ s.size ∧ i = .int .i64 k ∧ w = wr ∧ Hid ((List.range k).all (fun j => tokN (byteN s j)) = true)) (fun i _ => s.size - (intOf i).toNat)
  case atStart => exact ⟨0, Nat.zero_le _, rfl, rfl, rfl⟩
  case round =>
    obtain ⟨k, hk, rfl, rfl, hyes⟩ := hrel
    by_cases hlt : k < s.size
    · have hb := byteN_at s k hlt
      have hd : tokN (byteN s k) = (letterN (byteN s k) || (digitN (byteN s k) || markN (byteN s k))) := rfl
      have HD := Lib.hid hd
      clear hd
      cases h1 : letterN (byteN s k)
      · cases h2 : digitN (byteN s k)
        · cases h3 : markN (byteN s k)
          · have h4 : idxN marks (byteN s k) < 0 := by unfold markN at h3; simpa using h3
            have hres : tokS s = false := by
              unfold tokS
              rw [Bool.and_eq_false_iff]; left
              rw [List.all_eq_false]
              exact ⟨k, List.mem_range.2 hlt, by rw [HD.out, h1, h2, h3]; simp⟩
            have HR := Lib.hid hres
            clear hres
            have c1 := (letter_any (byteN s k) w); rw [h1] at c1
            have c2 := (digit_any (byteN s k) w); rw [h2] at c2
            have c3 := (indexByte_any marks (byteN s k) w)
            have C1 := Lib.hid c1; have C2 := Lib.hid c2; have C3 := Lib.hid c3
            clear c1 c2 c3 h1 h2 h3
            go_wp2_with (first | (go_at_call 27; refine C1.out.mono ?_; rintro e w' ⟨rfl, rfl⟩) | (go_at_call 28; refine C2.out.mono ?_; rintro e w' ⟨rfl, rfl⟩) | (go_at_call 29; refine C3.out.mono ?_; rintro e w' ⟨rfl, rfl⟩))
            go_ret
            exact ⟨ret_bool HR.out, rfl⟩
          · have h4 : 0 ≤ idxN marks (byteN s k) := by unfold markN at h3; simpa using h3
            have ht : tokN (byteN s k) = true := by rw [HD.out, h1, h2, h3]; rfl
            have HT := Lib.hid ht
            have c1 := (letter_any (byteN s k) w); rw [h1] at c1
            have c2 := (digit_any (byteN s k) w); rw [h2] at c2
            have c3 := (indexByte_any marks (byteN s k) w)
            have C1 := Lib.hid c1; have C2 := Lib.hid c2; have C3 := Lib.hid c3
            clear c1 c2 c3 h1 h2 h3 ht
            go_wp2_with (first | (go_at_call 27; refine C1.out.mono ?_; rintro e w' ⟨rfl, rfl⟩) | (go_at_call 28; refine C2.out.mono ?_; rintro e w' ⟨rfl, rfl⟩) | (go_at_call 29; refine C3.out.mono ?_; rintro e w' ⟨rfl, rfl⟩))
            go_roundw
            case rel => exact ⟨k + 1, by omega, by go_num, trivial, by show _ = _; rw [range_all_succ, hyes.out, HT.out]; rfl⟩
            case measure => simp [intOf]; omega
        · have ht : tokN (byteN s k) = true := by rw [HD.out, h1, h2]; rfl
          have HT := Lib.hid ht
          have c1 := (letter_any (byteN s k) w); rw [h1] at c1
          have c2 := (digit_any (byteN s k) w); rw [h2] at c2
          have C1 := Lib.hid c1; have C2 := Lib.hid c2
          clear c1 c2 h1 h2 ht
          go_wp2_with (first | (go_at_call 27; refine C1.out.mono ?_; rintro e w' ⟨rfl, rfl⟩) | (go_at_call 28; refine C2.out.mono ?_; rintro e w' ⟨rfl, rfl⟩))
          go_roundw
          case rel => exact ⟨k + 1, by omega, by go_num, trivial, by show _ = _; rw [range_all_succ, hyes.out, HT.out]; rfl⟩
          case measure => simp [intOf]; omega
      · have ht : tokN (byteN s k) = true := by rw [HD.out, h1]; rfl
        have HT := Lib.hid ht
        have c1 := (letter_any (byteN s k) w); rw [h1] at c1
        have C1 := Lib.hid c1
        clear c1 h1 ht
        go_wp2_with (go_at_call 27; refine C1.out.mono ?_; rintro e w' ⟨rfl, rfl⟩)
        go_roundw
        case rel => exact ⟨k + 1, by omega, by go_num, trivial, by show _ = _; rw [range_all_succ, hyes.out, HT.out]; rfl⟩
        case measure => simp [intOf]; omega
    · obtain rfl : k = s.size := by omega
      have hd : decide (s.size < s.size) = false := by simp
      go_wp2
      go_ret
      exact ⟨ret_bool (by unfold tokS; rw [hyes.out]; rfl), rfl⟩

theorem toList_len (s : ByteArray) : s.toList.length = s.size := by rw [ByteArray.toList_eq]; exact size_toList s
theorem notEmpty_of_pos {s : ByteArray} (h : 0 < s.size) : s.toList.isEmpty = false := by
  rw [← toList_len] at h
  cases hl : s.toList
  · rw [hl] at h; simp at h
  · rfl
theorem isEmpty_of_zero {s : ByteArray} (h : s.size = 0) : s.toList.isEmpty = true := by
  rw [← toList_len] at h
  rw [List.length_eq_zero_iff.1 h]; rfl

/-! ### The reference's Token -/
def rtokN (c : Int) : Bool := (letterN c || digitN c) || (inB rmarks c || c == 96)

theorem byte_all (p : Int → Bool) (h : ((List.range 256).all fun n => p (n : Int)) = true) (c : Int) (h0 : 0 ≤ c) (h1 : c < 256) : p c = true := by
  rw [List.all_eq_true] at h
  have := h c.toNat (List.mem_range.2 (by omega))
  rwa [Int.toNat_of_nonneg h0] at this

theorem tok_same (c : Int) (h0 : 0 ≤ c) (h1 : c < 256) : rtokN c = tokN c := by
  have := byte_all (fun c => rtokN c == tokN c) (by decide +kernel) c h0 h1
  simpa using this

set_option maxHeartbeats 800000 in
theorem rtoken_any (s : ByteArray) (hs : s.size ≤ 140737488351232) (w : World) :
    Calls Try.prog 24 #[.string s] w fun e w' => e = .returned (.bool (tokS s)) ∧ w = w' := by
  go_enter Try.func24, Try.ntmps24
  go_wp2
  go_loopw [3] (fun i wr => ∃ k : Nat, k ≤ s.size ∧ i = .int .i64 k ∧ w = wr ∧ Hid ((List.range k).all (fun j => tokN (byteN s j)) = true)) (fun i _ => s.size - (intOf i).toNat)
  case atStart => exact ⟨0, Nat.zero_le _, rfl, rfl, rfl⟩
  case round =>
    obtain ⟨k, hk, rfl, rfl, hyes⟩ := hrel
    by_cases hlt : k < s.size
    · have hb := byteN_at s k hlt
      obtain ⟨b0, b1⟩ := byteN_bd s k
      have hd : tokN (byteN s k) = ((letterN (byteN s k) || digitN (byteN s k)) || (inB rmarks (byteN s k) || byteN s k == 96)) := (tok_same _ b0 b1).symm
      have HD := Lib.hid hd
      clear hd
      have c1 := plain_any (byteN s k) w
      have c2 := in_any rmarks (by decide) (byteN s k) w
      have C1 := Lib.hid c1; have C2 := Lib.hid c2
      clear c1 c2
      cases h1 : (letterN (byteN s k) || digitN (byteN s k))
      · cases h2 : inB rmarks (byteN s k)
        · by_cases h3 : byteN s k = 96
          · have hq : (byteN s k != 96) = false := by simp [h3]
            have ht : tokN (byteN s k) = true := by rw [HD.out, h1, h2, h3]; rfl
            have HT := Lib.hid ht
            rw [h1] at C1; rw [h2] at C2
            clear h1 h2 h3 ht HD
            go_wp2_with (first | (go_at_call 30; refine C1.out.mono ?_; rintro e w' ⟨rfl, rfl⟩) | (go_at_call 31; refine C2.out.mono ?_; rintro e w' ⟨rfl, rfl⟩))
            go_roundw
            case rel => exact ⟨k + 1, by omega, by go_num, trivial, by show _ = _; rw [range_all_succ, hyes.out, HT.out]; rfl⟩
            case measure => simp [intOf]; omega
          · have hq : (byteN s k != 96) = true := by simp [h3]
            have h3' : (byteN s k == 96) = false := by simp [h3]
            have hres : tokS s = false := by
              unfold tokS
              rw [Bool.and_eq_false_iff]; left
              rw [List.all_eq_false]
              exact ⟨k, List.mem_range.2 hlt, by rw [HD.out, h1, h2, h3']; simp⟩
            have HR := Lib.hid hres
            rw [h1] at C1; rw [h2] at C2
            clear h1 h2 h3 h3' HD hres
            go_wp2_with (first | (go_at_call 30; refine C1.out.mono ?_; rintro e w' ⟨rfl, rfl⟩) | (go_at_call 31; refine C2.out.mono ?_; rintro e w' ⟨rfl, rfl⟩))
            go_ret
            exact ⟨ret_bool HR.out, rfl⟩
        · have ht : tokN (byteN s k) = true := by rw [HD.out, h1, h2]; rfl
          have HT := Lib.hid ht
          rw [h1] at C1; rw [h2] at C2
          clear h1 h2 ht HD
          go_wp2_with (first | (go_at_call 30; refine C1.out.mono ?_; rintro e w' ⟨rfl, rfl⟩) | (go_at_call 31; refine C2.out.mono ?_; rintro e w' ⟨rfl, rfl⟩))
          go_roundw
          case rel => exact ⟨k + 1, by omega, by go_num, trivial, by show _ = _; rw [range_all_succ, hyes.out, HT.out]; rfl⟩
          case measure => simp [intOf]; omega
      · have ht : tokN (byteN s k) = true := by rw [HD.out, h1]; rfl
        have HT := Lib.hid ht
        rw [h1] at C1
        clear h1 ht HD C2
        go_wp2_with (go_at_call 30; refine C1.out.mono ?_; rintro e w' ⟨rfl, rfl⟩)
        go_roundw
        case rel => exact ⟨k + 1, by omega, by go_num, trivial, by show _ = _; rw [range_all_succ, hyes.out, HT.out]; rfl⟩
        case measure => simp [intOf]; omega
    · obtain rfl : k = s.size := by omega
      have hd : decide (s.size < s.size) = false := by simp
      by_cases h0 : 0 < s.size
      · have hz : decide ((0 : Int) < (s.size : Int)) = true := decide_eq_true (by omega)
        go_wp2
        go_ret
        exact ⟨ret_bool (by unfold tokS; rw [hyes.out, notEmpty_of_pos h0]; rfl), rfl⟩
      · have hz : decide ((0 : Int) < (s.size : Int)) = false := decide_eq_false (by omega)
        go_wp2
        go_ret
        exact ⟨ret_bool (by unfold tokS; rw [isEmpty_of_zero (by omega)]; simp), rfl⟩

/-! ### The names of methods -/
def m0 : ByteArray := ⟨#[68, 69, 76, 69, 84, 69]⟩
def m1 : ByteArray := ⟨#[71, 69, 84]⟩
def m2 : ByteArray := ⟨#[72, 69, 65, 68]⟩
def m3 : ByteArray := ⟨#[79, 80, 84, 73, 79, 78, 83]⟩
def m4 : ByteArray := ⟨#[80, 79, 83, 84]⟩
def m5 : ByteArray := ⟨#[80, 85, 84]⟩
def names : List ByteArray := [m0, m1, m2, m3, m4, m5]
def nameAt (k : Nat) : ByteArray := names.getD k m0
def knownS (s : ByteArray) : ByteArray := (names.find? fun m => foldB s m).getD ⟨#[]⟩

set_option maxHeartbeats 1600000 in
theorem known_any (s : ByteArray) (hs : s.size ≤ 140737488351232) (w : World) :
    Calls Try.prog 20 #[.string s] w fun e w' => e = .returned (.string (knownS s)) ∧ Ext [] w w' := by
  have ix : ∀ k : Nat, k < 6 → ∀ w : World, (Instr.index 29 (.agg #[.string ⟨#[68, 69, 76, 69, 84, 69]⟩, .string ⟨#[71, 69, 84]⟩, .string ⟨#[72, 69, 65, 68]⟩, .string ⟨#[79, 80, 84, 73, 79, 78, 83]⟩, .string ⟨#[80, 79, 83, 84]⟩, .string ⟨#[80, 85, 84]⟩]) (.int .i64 k)).run Try.prog w = .ok (.string (nameAt k)) w := by
    intro k hk w
    obtain rfl | rfl | rfl | rfl | rfl | rfl : k = 0 ∨ k = 1 ∨ k = 2 ∨ k = 3 ∨ k = 4 ∨ k = 5 := by omega
    all_goals kernel_rfl
  have IX := Lib.hid ix
  clear ix
  go_enter Try.func20, Try.ntmps20
  go_wp2
  go_loopw [6] (fun i wr => ∃ k : Nat, k ≤ 6 ∧ i = .int .i64 k ∧ Ext [] w wr ∧ Hid ((names.take k).find? (fun m => foldB s m) = none)) (fun i _ => 6 - (intOf i).toNat)
  case atStart => exact ⟨0, Nat.zero_le _, rfl, Ext.refl _ _, rfl⟩
  case round =>
    obtain ⟨k, hk, rfl, her, hno⟩ := hrel
    by_cases hlt : k < 6
    · have ik := IX.out k hlt
      have hlt' : (k : Int) < 6 := by omega
      have hsz : (nameAt k).size ≤ 140737488351232 := by
        obtain rfl | rfl | rfl | rfl | rfl | rfl : k = 0 ∨ k = 1 ∨ k = 2 ∨ k = 3 ∨ k = 4 ∨ k = 5 := by omega
        all_goals decide
      go_wp2_with fail
      refine (fold_any s (nameAt k) hs hsz _).mono ?_
      have hn : names.take (k + 1) = names.take k ++ [nameAt k] := by
        obtain rfl | rfl | rfl | rfl | rfl | rfl : k = 0 ∨ k = 1 ∨ k = 2 ∨ k = 3 ∨ k = 4 ∨ k = 5 := by omega
        all_goals rfl
      have HN := Lib.hid hn
      clear hn
      cases hf : foldB s (nameAt k)
      · rintro e w1 ⟨rfl, h1⟩
        have HF := Lib.hid hf
        clear hf
        go_wp2
        go_roundw
        case rel => exact ⟨k + 1, by omega, by go_num, her.trans h1 (by simp), by show _ = _; rw [HN.out, List.find?_append, hno.out]; simp [HF.out]⟩
        case measure => simp [intOf]; omega
      · have hres : knownS s = nameAt k := by
          unfold knownS
          have e1 : names = names.take (k + 1) ++ names.drop (k + 1) := (List.take_append_drop _ _).symm
          rw [e1, List.find?_append, HN.out, List.find?_append, hno.out]
          simp [hf]
        have HR := Lib.hid hres
        clear hf hres
        rintro e w1 ⟨rfl, h1⟩
        go_wp2
        go_ret
        exact ⟨ret_str HR.out, her.trans h1 (by simp)⟩
    · obtain rfl : k = 6 := by omega
      have hres : knownS s = ⟨#[]⟩ := by
        unfold knownS
        rw [show names = names.take 6 from rfl, hno.out]
        rfl
      have HR := Lib.hid hres
      clear hres
      go_wp2
      go_ret
      exact ⟨ret_str HR.out, her⟩
end Go.Proofs.Ytjmjnahihkhonaa
