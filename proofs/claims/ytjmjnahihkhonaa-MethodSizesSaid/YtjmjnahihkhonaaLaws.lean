/- The laws of method as walks. -/
import Derived.Test.YtjmjnahihkhonaaPlain
import Derived.Test.YtjmjnahihkhonaaFlip
import Derived.Test.YtjmjnahihkhonaaLong
import Derived.Test.YtjmjnahihkhonaaLow
namespace Go.Proofs.Ytjmjnahihkhonaa
open Go.RowKit

theorem norm_of (s m : ByteArray) (hm : m ∈ names) (h : kn (lowL s) = m) : normS s = m := by
  unfold normS; rw [knownS_eq, h, names_ne m hm]; rfl
theorem norm_no (s : ByteArray) (h : kn (lowL s) = ⟨#[]⟩) : normS s = s := by
  unfold normS; rw [knownS_eq, h, empty_is]; rfl
theorem safe_of (s m : ByteArray) (h : kn (lowL s) = m) (b : Bool) (hb : (m.data.toList == [71, 69, 84] || (m.data.toList == [72, 69, 65, 68] || m.data.toList == [80, 79, 83, 84])) = b) : safeS s = b := by
  unfold safeS; rw [knownS_eq, h, m1_list, m2_list, m4_list, ByteArray.toList_eq]; exact hb
theorem check_of (s : ByteArray) (c : Int) (h : (if (!tk (lowL s) || (decide (32 < s.size) || br (lowL s))) = true then (5 : Int) else 0) = c) : checkS s = c := by
  unfold checkS; rw [tokS_eq, barsS_eq]; exact h

set_option maxHeartbeats 800000 in
theorem mawake_any (w : World) : Calls Try.prog 8 #[] w fun e w' => e = .returned (.bool true) ∧ Ext [] w w' := by
  have v1 := Lib.hid (norm_of ⟨#[103, 101, 116]⟩ m1 (by simp [names]) (by decide +kernel))
  have v2 := Lib.hid (norm_no ⟨#[80, 97, 116, 99, 104]⟩ (by decide +kernel))
  have v3 := Lib.hid (check_of ⟨#[116, 82, 97, 99, 101]⟩ 5 (by decide +kernel))
  have v4 := Lib.hid (check_of ⟨#[80, 85, 84]⟩ 0 (by decide +kernel))
  have v5 := Lib.hid (safe_of ⟨#[104, 101, 97, 100]⟩ m2 (by decide +kernel) true (by decide +kernel))
  unfold m1 at v1
  go_enter Try.func8, Try.ntmps8
  go_wp2_with fail
  refine (norm_any _ (by decide) _).mono ?_
  rw [v1.out]
  rintro e w1 ⟨rfl, h1⟩
  go_wp2_with fail
  refine (norm_any _ (by decide) _).mono ?_
  rw [v2.out]
  rintro e w2 ⟨rfl, h2⟩
  go_wp2_with fail
  refine (check_any _ (by decide) _).mono ?_
  rw [v3.out]
  rintro e w3 ⟨rfl, h3⟩
  go_wp2_with fail
  refine (check_any _ (by decide) _).mono ?_
  rw [v4.out]
  rintro e w4 ⟨rfl, h4⟩
  go_wp2_with fail
  refine (safe_any _ (by decide) _).mono ?_
  rw [v5.out]
  rintro e w5 ⟨rfl, h5⟩
  go_wp2
  go_ret
  exact ⟨rfl, (((h1.trans h2 (by simp)).trans h3 (by simp)).trans h4 (by simp)).trans h5 (by simp)⟩

/-- The one text as a slice of its own. -/
theorem one_text (w : World) (s : ByteArray) (T : TypeId) : Slc encS 1 (w.alloc (.cells #[.string s] T)) (some ⟨w.heap.size, 0, none⟩) 1 [s] := by
  refine ⟨rfl, fun _ => ⟨w.heap.size, 0, rfl, by simp, fun i x hx j v hv => ?_⟩⟩
  have hi : i = 0 := by
    have := (List.getElem?_eq_some_iff.1 hx).1
    simpa using this
  subst hi
  simp at hx
  subst hx
  have hj : j = 0 := by
    have := (List.getElem?_eq_some_iff.1 hv).1
    simpa [encS] using this
  subst hj
  simp [encS] at hv
  subst hv
  rw [(Blk.new w #[.string s] T).cell]; rfl

set_option maxHeartbeats 1600000 in
theorem methodAll_walk (w : World) (s : ByteArray) (hs : s.size ≤ 140737488351232) :
    Calls Try.prog 3 #[.string s] w fun e w' => e = .returned (.bool true) ∧ Ext [] w w' := by
  have r1 := Lib.hid (rnorm_eq s)
  have r2 := Lib.hid (rsafe_eq s)
  go_enter Try.func3, Try.ntmps3
  go_wp2_with fail
  refine (long_any 200 (by omega) (by omega) _ _ _ [s] _ (one_text w s _) (by omega)).mono ?_
  have h0 : Ext [] w (w.alloc (.cells #[.string s] 9)) := (Ext.refl _ _).alloc _
  cases hl : longL 200 [s]
  · rintro e w0 ⟨rfl, rfl⟩
    clear hl
    go_wp2_with fail
    refine (norm_any s hs _).mono ?_
    rintro e w1 ⟨rfl, h1⟩
    go_wp2_with fail
    refine (rnorm_any s hs _).mono ?_
    rw [r1.out]
    rintro e w2 ⟨rfl, h2⟩
    go_wp2_with fail
    refine (bars_any s hs _).mono ?_
    rintro e w3 ⟨rfl, h3⟩
    go_wp2_with fail
    refine (rbars_any s hs _).mono ?_
    rintro e w4 ⟨rfl, h4⟩
    go_wp2_with fail
    refine (check_any s hs _).mono ?_
    rintro e w5 ⟨rfl, h5⟩
    go_wp2_with fail
    refine (rcheck_any s hs _).mono ?_
    rintro e w6 ⟨rfl, h6⟩
    go_wp2_with fail
    refine (safe_any s hs _).mono ?_
    rintro e w7 ⟨rfl, h7⟩
    go_wp2_with fail
    refine (rsafe_any s hs _).mono ?_
    rw [r2.out]
    rintro e w8 ⟨rfl, h8⟩
    go_wp2_with fail
    refine (mawake_any _).mono ?_
    rintro e w9 ⟨rfl, h9⟩
    go_wp2
    go_ret
    exact ⟨rfl, (((((((((h0.trans h1 (by simp)).trans h2 (by simp)).trans h3 (by simp)).trans h4 (by simp)).trans h5 (by simp)).trans h6 (by simp)).trans h7 (by simp)).trans h8 (by simp)).trans h9 (by simp))⟩
  · rintro e w0 ⟨rfl, rfl⟩
    clear hl
    go_wp2_with fail
    refine (mawake_any _).mono ?_
    rintro e w9 ⟨rfl, h9⟩
    go_wp2
    go_ret
    exact ⟨rfl, h0.trans h9 (by simp)⟩
end Go.Proofs.Ytjmjnahihkhonaa
