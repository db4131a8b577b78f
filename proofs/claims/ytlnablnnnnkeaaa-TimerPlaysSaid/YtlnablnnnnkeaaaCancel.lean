/- The wheel's Cancel, by contract. -/
import Derived.Test.YtlnablnnnnkeaaaArm
namespace Go.Proofs.Ytlnablnnnnkeaaa
open Go.RowKit Go.Proofs.YtlnablnnnnkeaaaW.PrintLast
set_option linter.unusedVariables false
set_option linter.unusedSimpArgs false

set_option maxHeartbeats 3200000 in
theorem cancel_any (b : Nat) (v : Value) (xs : List One) (most last id : Int) (hx : xs.length < 1000000) (w : World) (h : Wh w b v xs most last) :
    Calls Try.prog 17 #[.pointer (some ⟨b, 0, none⟩), .int .i64 id] w fun e w' =>
      ((∀ j t, j < xs.length → xs[j]? = some t → t.id ≠ id) ∧ e = .returned (.bool false) ∧ Wh w' b v xs most last ∧ Ext [] w w') ∨
      (∃ i t v', xs[i]? = some t ∧ t.id = id ∧ e = .returned (.bool true) ∧ Wh w' b v' (cutF xs i) most last ∧ v'.ownBlock = v.ownBlock ∧ Ext (b :: v.ownBlock.toList) w w') := by
  obtain ⟨a, cap, rfl⟩ := h.row.val
  have hcv : w.cell? ⟨b, 0, none⟩ = some (.slice a xs.length cap) := h.blk.cell 0
  obtain ⟨n, hn⟩ : ∃ n, n = xs.length := ⟨_, rfl⟩
  rw [← hn] at hcv h
  go_enter Try.func17, Try.ntmps17
  have HN := Lib.hid hn
  clear hn
  go_wp2_with fail
  go_loopw [14] (fun iv wr => ∃ (k : Nat), k ≤ n ∧ iv = .int .i64 k ∧ Wh wr b (.slice a n cap) xs most last ∧ Hid (∀ j t, j < k → xs[j]? = some t → t.id ≠ id) ∧ Ext [] w wr) (fun iv _ => n - (intOf iv).toNat)
  case atStart => exact ⟨0, Nat.zero_le _, rfl, h, fun j t hj => absurd hj (Nat.not_lt_zero _), Ext.refl _ _⟩
  case round =>
    obtain ⟨k, hkn, rfl, hw, hall, her⟩ := hrel
    by_cases hk : k < n
    · obtain ⟨t, ht⟩ : ∃ t, xs[k]? = some t := ⟨_, List.getElem?_eq_getElem (by rw [← HN.out]; exact hk)⟩
      have d1 : decide (k < n) = true := decide_eq_true hk
      obtain ⟨g, cap', hv, hlt, hc⟩ := hw.row.form (by rw [← HN.out]; omega)
      injection hv with hv1 hv2 hv3
      subst hv1 hv3
      have hx0 := hw.row.cell encO_len ht 0 (by omega); have hx1 := hw.row.cell encO_len ht 1 (by omega); have hx2 := hw.row.cell encO_len ht 2 (by omega)
      simp only [encO, Nat.add_zero, List.getElem?_cons_zero, List.getElem?_cons_succ] at hx0 hx1 hx2
      have b1 : (0 : Int) ≤ (k : Int) := by omega
      have b2 : (k : Int) < (n : Int) := by omega
      by_cases hid : t.id = id
      · have d2 : (t.id == id) = true := by simp [hid]
        go_wp2_with fail
        have he : Ext [] wr (wr.alloc (Obj.cells #[.int .u64 t.at_, .int .i64 id, .int .i64 t.tag] 62)) := (Ext.refl _ _).alloc _
        refine (cut_any b g n cap xs most last k (by rw [← HN.out]; exact hk) hx t ht _ (hw.keep he (by simp) (by simp))).mono ?_
        rintro e w1 ⟨rfl, hw1, he1⟩
        go_wp2_with fail
        go_ret
        refine Or.inr ⟨k, t, _, ht, hid, rfl, hw1, rfl, ?_⟩
        exact (((her.alloc _).mono (T := [b, g]) (by simp)).trans he1 (fun _ hq => Or.inl hq)).mono (by simp [Value.ownBlock])
      · have d2 : (t.id == id) = false := by simp [hid]
        go_wp2_with fail
        have he : Ext [] wr (wr.alloc (Obj.cells #[.int .u64 t.at_, .int .i64 t.id, .int .i64 t.tag] 62)) := (Ext.refl _ _).alloc _
        refine ⟨⟨k + 1, by omega, rfl, hw.keep he (by simp) (by simp), ?_, her.trans he (by simp)⟩, by simp [intOf]; omega⟩
        intro j t' hj ht'
        rcases Nat.lt_or_ge j k with h1 | h1
        · exact hall.out j t' h1 ht'
        · have : j = k := by omega
          rw [this, ht] at ht'
          injection ht' with ht'
          rw [← ht']; exact hid
    · have d1 : decide (k < n) = false := decide_eq_false hk
      go_wp2_with fail
      go_ret
      refine Or.inl ⟨?_, rfl, by rw [← HN.out]; exact hw, her⟩
      intro j t hj
      exact hall.out j t (by have := HN.out; omega)
end Go.Proofs.Ytlnablnnnnkeaaa
