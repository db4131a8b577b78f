/- slices.IndexFunc at rows of whole numbers. -/
import Derived.Test.YtkbjpackijdnkaaIntRows
namespace Go.Proofs.Ytkbjpackijdnkaa
open Go.RowKit
set_option linter.unusedVariables false
set_option linter.unusedSimpArgs false

set_option maxHeartbeats 1600000 in
theorem intIndexFunc_any (p : Int → Bool) (g : Nat) (lb : Array Value) (eg : ∀ args w, (callFunc g args).run Try.prog w = .ok (.enter g args) w)
    (v : Value) (xs : List Int) (hx : xs.length < 1000000) (w : World) (h : RI w v xs) (hp : PredI Try.prog g lb p w) :
    Calls Try.prog 81 #[v, .func (.func g) #[] lb] w fun e w' => e = .returned (.int .i64 (idxI p xs)) ∧ Ext [] w w' := by
  obtain ⟨a, cap, rfl⟩ := h.val
  obtain ⟨n, hn⟩ : ∃ n, n = xs.length := ⟨_, rfl⟩
  rw [← hn] at h ⊢
  have HN := Lib.hid hn
  have hn1 : n < 1000000 := by omega
  clear hn hx
  go_enter Try.func81, Try.ntmps81
  go_wp2_with fail
  go_loopw [5, 8] (fun _ iv wr => ∃ (k : Nat), k ≤ n ∧ iv = .int .i64 k ∧ Hid (∀ (j : Nat) x, j < k → xs[j]? = some x → p x = false) ∧ Ext [] w wr) (fun _ iv _ => n - (intOf iv).toNat)
  case atStart => exact ⟨0, Nat.zero_le _, rfl, fun j x hj => absurd hj (Nat.not_lt_zero _), Ext.refl _ _⟩
  case round =>
    obtain ⟨k, hkn, rfl, hall, her⟩ := hrel
    by_cases hlt : k < n
    · obtain ⟨x, hxk⟩ : ∃ x, xs[k]? = some x := ⟨_, List.getElem?_eq_getElem (by rw [← HN.out]; exact hlt)⟩
      have d1 : decide (k < n) = true := decide_eq_true hlt
      have hr := h.keep her (by simp)
      obtain ⟨gb, rfl, hgl⟩ := hr.addr (by omega)
      have hx0 := hr.cell encI_ok.len hxk 0 (by omega)
      simp only [encI, Nat.add_zero, Nat.mul_one, List.getElem?_cons_zero] at hx0
      have hcall := hp wr x her
      have b1 : (0 : Int) ≤ (k : Int) := by omega
      have b2 : (k : Int) < (n : Int) := by omega
      clear hr hp h
      have HXK := Lib.hid hxk
      clear hxk
      cases hq : p x with
      | true =>
        rw [hq] at hcall
        go_wp2_with (go_at_fn g; refine hcall.mono ?_; rintro e w' ⟨rfl, hb'⟩)
        go_ret
        refine ⟨ret_int ?_, her.trans hb' (by simp)⟩
        exact idxI_some HXK.out hq (fun j y hj hy => hall.out j y hj hy)
      | false =>
        rw [hq] at hcall
        go_wp2_with (go_at_fn g; refine hcall.mono ?_; rintro e w' ⟨rfl, hb'⟩)
        refine ⟨⟨k + 1, by omega, rfl, ?_, her.trans hb' (by simp)⟩, by simp [intOf]; omega⟩
        intro j y hj hy
        rcases Nat.lt_or_ge j k with h1 | h1
        · exact hall.out j y h1 hy
        · have : j = k := by omega
          rw [this, HXK.out] at hy
          injection hy with hy
          rw [← hy]; exact hq
    · have d1 : decide (k < n) = false := decide_eq_false hlt
      go_wp2_with fail
      go_ret
      refine ⟨ret_int ?_, her⟩
      exact idxI_none (fun j y hy => hall.out j y (by have := (List.getElem?_eq_some_iff.1 hy).1; have := HN.out; omega) hy)

end Go.Proofs.Ytkbjpackijdnkaa
