/- The hosts' table: Keys; Texts of the statements; by contract. -/
import Derived.Test.YtmmhpjodnceipaaHosts
import Derived.Test.YtmmhpjodnceipaaLong
namespace Go.Proofs.Ytmmhpjodnceipaa
open Go.RowKit
set_option linter.unusedVariables false
set_option linter.unusedSimpArgs false

theorem encS_ok : EncOk encS 1 := ⟨fun _ => rfl, fun o u hu => by simp [encS] at hu; rcases hu with rfl; rfl⟩
theorem tyS : ETy Try.prog 65 9 1 := ⟨by kernel_rfl, ⟨Try.t9, _, by kernel_rfl, by rfl, by rfl, by decide, by rfl⟩, by decide⟩

/-- A new row of texts. -/
def KeysP (ks : List ByteArray) (w : World) (e : Ending) (w' : World) : Prop :=
  ∃ (a : Option Addr) (c : Nat), e = .returned (.slice a ks.length c) ∧ Rw encS 1 9 w' (.slice a ks.length c) ks ∧ Ext [] w w' ∧ (∀ g, (Value.slice a ks.length c).ownBlock = some g → w.heap.size ≤ g)

def keyOf (x : Hs) : ByteArray := x.key

set_option maxHeartbeats 3200000 in
theorem keys_any (most : Int) (b : Nat) (v : Value) (xs : List Hs) (hx : xs.length < 100000) (w : World) (h : Tb most w b v xs) :
    Calls Try.prog 36 #[.pointer (some ⟨b, 0, none⟩)] w (KeysP (xs.map keyOf) w) := by
  obtain ⟨a, cap, rfl⟩ := h.row.val
  obtain ⟨n, hn⟩ : ∃ n, n = xs.length := ⟨_, rfl⟩
  rw [← hn] at h
  have hcv : w.cell? ⟨b, 0, none⟩ = some (.slice a n cap) := h.blk.cell 0
  have hrow := h.row
  obtain ⟨ks, hks⟩ : ∃ ks, ks = xs.map keyOf := ⟨_, rfl⟩
  rw [← hks]
  have hkl : ks.length = n := by rw [hks, List.length_map, hn]
  have HN := Lib.hid hn; have HKS := Lib.hid hks; have HKL := Lib.hid hkl
  have hn1 : n < 100000 := by omega
  clear hn hx h hks hkl
  go_enter Try.func36, Try.ntmps36
  go_wp2_with fail
  go_loopw [3, 5, 13] (fun ov _ iv wr => ∃ (k : Nat) (a2 : Option Addr) (c2 : Nat), k ≤ n ∧ iv = .int .i64 k ∧ ov = .slice a2 k c2 ∧ Rw encS 1 9 wr (.slice a2 k c2) (ks.take k) ∧ Ext [] w wr ∧ Hid (∀ g, (Value.slice a2 k c2).ownBlock = some g → w.heap.size ≤ g)) (fun _ _ iv _ => n - (intOf iv).toNat)
  case atStart => exact ⟨0, none, 0, Nat.zero_le _, rfl, rfl, Rw.nil _, Ext.refl _ _, fun g hg => by simp [Value.ownBlock] at hg⟩
  case round =>
    obtain ⟨k, a2, c2, hkn, rfl, rfl, hr2, her, hfr⟩ := hrel
    by_cases hlt : k < n
    · obtain ⟨x, hxk⟩ : ∃ x, xs[k]? = some x := ⟨_, List.getElem?_eq_getElem (by rw [← HN.out]; exact hlt)⟩
      have d1 : decide (k < n) = true := decide_eq_true hlt
      have hr := hrow.keep her (by simp)
      obtain ⟨gb, rfl, hgl⟩ := hr.addr (by omega)
      have hx0 := hr.cell encH_ok.len hxk 0 (by omega); have hx1 := hr.cell encH_ok.len hxk 1 (by omega)
      simp only [encH, Nat.add_zero, List.getElem?_cons_zero, List.getElem?_cons_succ] at hx0 hx1
      have b1 : (0 : Int) ≤ (k : Int) := by omega
      have b2 : (k : Int) < (n : Int) := by omega
      have h63 : k + 1 ≤ 1000000 := by omega
      have hmap : ks.take (k + 1) = ks.take k ++ [x.key] := by rw [List.take_add_one, HKS.out, List.getElem?_map, hxk]; rfl
      have hlen : LenIs (ks.take k) [x.key] (k + 1) := by unfold LenIs; have := hr2.len; rw [← this]; rfl
      have hsl := Sl.new (enc := encS) (wr.alloc (.cells (encH x).toArray 77 (0, 0))) x.key 9
      have hrw := (hr2.alloc (.cells (encH x).toArray 77 (0, 0))).alloc (.cells (encS x.key).toArray 9 (0, 0))
      have HMAP := Lib.hid hmap
      rw [World.size_alloc] at hsl
      clear hr hxk hr2 hmap
      go_wp2_with (at_builtin; refine wpList_appN tyS encS_ok (by rfl) _ _ (by rfl) hrw (by rfl) hsl (by rfl) hlen h63 ?_)
      intro a5 c5 w5 hr5 hS5 hg5
      have e5 : Ext [] w w5 := fresh_app (v1 := .slice a2 k c2) ((her.alloc _).alloc _) hfr.out hS5
      have hg6 : Hid (∀ g, (Value.slice a5 (k + 1) c5).ownBlock = some g → w.heap.size ≤ g) := fun g hg => (hg5 g hg).elim (hfr.out g) (fun h => by have := her.size; omega)
      rw [← HMAP.out] at hr5
      clear hS5 hg5 hfr hlen hsl hrw
      go_wp2_with fail
      exact ⟨⟨k + 1, a5, c5, by omega, rfl, rfl, hr5, e5, hg6⟩, by simp [intOf]; omega⟩
    · have d1 : decide (k < n) = false := decide_eq_false hlt
      obtain rfl : k = n := by omega
      go_wp2_with fail
      go_ret
      rw [List.take_of_length_le (by rw [HKL.out]; exact Nat.le_refl _)] at hr2
      have he : ∀ m, m = k → Ending.returned (.slice a2 k c2) = .returned (.slice a2 m c2) := by intro m h; rw [h]
      exact ⟨a2, c2, he _ HKL.out, by rw [HKL.out]; exact hr2, her, by rw [HKL.out]; exact hfr.out⟩

set_option maxHeartbeats 1600000 in
/-- Two lists of texts. -/
theorem texts_any (v v' : Value) (xs ys : List ByteArray) (hx : xs.length < 1000000) (hy : ys.length < 1000000) (w : World) (h : Rw encS 1 9 w v xs) (h' : Rw encS 1 9 w v' ys) :
    Calls Try.prog 35 #[v, v'] w fun e w' => e = .returned (.bool (decide (xs = ys))) ∧ Ext [] w w' := by
  obtain ⟨a, cap, rfl⟩ := h.val
  obtain ⟨a', cap', rfl⟩ := h'.val
  obtain ⟨n, hn⟩ : ∃ n, n = xs.length := ⟨_, rfl⟩
  obtain ⟨m, hm⟩ : ∃ n, n = ys.length := ⟨_, rfl⟩
  rw [← hn] at h ⊢; rw [← hm] at h' ⊢
  have HN := Lib.hid hn; have HM := Lib.hid hm
  have hn1 : n < 1000000 := by omega
  have hm1 : m < 1000000 := by omega
  by_cases hnm : n = m
  · subst hnm
    clear hn hm hx hy hm1
    go_enter Try.func35, Try.ntmps35
    go_wp2_with fail
    go_loopw [5] (fun iv wr => ∃ (k : Nat), k ≤ n ∧ iv = .int .i64 k ∧ Ext [] w wr ∧ Hid (∀ j : Nat, j < k → xs[j]? = ys[j]?)) (fun iv _ => n - (intOf iv).toNat)
    case atStart => exact ⟨0, Nat.zero_le _, rfl, Ext.refl _ _, fun j hj => absurd hj (Nat.not_lt_zero _)⟩
    case round =>
      obtain ⟨k, hkn, rfl, her, hall⟩ := hrel
      by_cases hk : k < n
      · obtain ⟨t, ht⟩ : ∃ t, xs[k]? = some t := ⟨_, List.getElem?_eq_getElem (by rw [← HN.out]; exact hk)⟩
        obtain ⟨t', ht'⟩ : ∃ t, ys[k]? = some t := ⟨_, List.getElem?_eq_getElem (by rw [← HM.out]; exact hk)⟩
        have d1 : decide (k < n) = true := decide_eq_true hk
        obtain ⟨g, rfl, hlt⟩ := h.addr (by omega)
        obtain ⟨g', rfl, hlt'⟩ := h'.addr (by omega)
        have hx0 := (h.keep her (by simp)).cell encS_ok.len ht 0 (by omega)
        have hy0 := (h'.keep her (by simp)).cell encS_ok.len ht' 0 (by omega)
        simp only [encS, Nat.add_zero, Nat.mul_one, List.getElem?_cons_zero] at hx0 hy0
        have b1 : (0 : Int) ≤ (k : Int) := by omega
        have b2 : (k : Int) < (n : Int) := by omega
        have HT := Lib.hid ht; have HT' := Lib.hid ht'
        have hbe := bytes_beq t t'
        have HBE := Lib.hid hbe
        clear ht ht' h h' hbe
        cases hq : (t.toList == t'.toList)
        · rw [hq] at HBE
          have hne : decide (xs = ys) = false := by
            apply decide_eq_false
            intro e
            rw [e, HT'.out] at HT
            have h1 := HT.out
            injection h1 with h1
            have := HBE.out
            rw [h1] at this
            simp at this
          have HNE := Lib.hid hne
          have hq2 : (t.toList != t'.toList) = true := by rw [bne, hq]; rfl
          clear hne
          go_wp2_with fail
          go_quiet (fail)
          go_wp2_with fail
          go_ret
          exact ⟨ret_bool HNE.out, her.drewN _⟩
        · rw [hq] at HBE
          have hq2 : (t.toList != t'.toList) = false := by rw [bne, hq]; rfl
          go_wp2_with fail
          go_quiet (fail)
          go_wp2_with fail
          refine ⟨⟨k + 1, by omega, rfl, her.drewN _, ?_⟩, by simp [intOf]; omega⟩
          intro j hj
          rcases Nat.lt_or_ge j k with h1 | h1
          · exact hall.out j h1
          · have : j = k := by omega
            rw [this, HT.out, HT'.out]
            congr 1
            exact of_decide_eq_true HBE.out.symm
      · have d1 : decide (k < n) = false := decide_eq_false hk
        have he : decide (xs = ys) = true := by
          apply decide_eq_true
          refine List.ext_getElem? fun j => ?_
          rcases Nat.lt_or_ge j n with h1 | h1
          · exact hall.out j (by omega)
          · rw [List.getElem?_eq_none (by rw [← HN.out]; exact h1), List.getElem?_eq_none (by rw [← HM.out]; exact h1)]
        have HE := Lib.hid he
        clear he
        go_wp2_with fail
        go_ret
        exact ⟨ret_bool HE.out, her⟩
  · have hne : decide (xs = ys) = false := by
      apply decide_eq_false
      intro e
      rw [hn, hm, e] at hnm
      exact hnm rfl
    have HNE := Lib.hid hne
    have d1 : (n != m) = true := by rw [bne_iff_ne]; exact hnm
    clear hn hm hx hy hne
    go_enter Try.func35, Try.ntmps35
    go_wp2_with fail
    go_ret
    exact ⟨ret_bool HNE.out, Ext.refl _ _⟩
end Go.Proofs.Ytmmhpjodnceipaa
