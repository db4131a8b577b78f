/- The library's functions at rows of whole numbers. -/
import Derived.Test.YtlagogjnoibkcaaOb
import Derived.Test.YtlagogjnoibkcaaLow
namespace Go.Proofs.Ytlagogjnoibkcaa
open Go.RowKit
set_option linter.unusedVariables false
set_option linter.unusedSimpArgs false

theorem encI_ok : EncOk (encI .i64) 1 := ⟨fun _ => rfl, fun o u hu => by simp [encI] at hu; subst hu; rfl⟩
theorem tyI : ETy Try.prog 42 3 1 := ⟨by kernel_rfl, ⟨Try.t3, _, by kernel_rfl, by rfl, by rfl, by decide, by rfl⟩, by decide⟩
abbrev RI := @Rw Int (encI .i64) 1 3

/-- What a function value on whole numbers does, behind w. -/
def PredI (P : Program) (g : Nat) (lb : Array Value) (p : Int → Bool) (w : World) : Prop :=
  ∀ (W : World) (x : Int), Ext [] w W → Calls P g (#[.int .i64 x] ++ lb) W fun e w' => e = .returned (.bool (p x)) ∧ Ext [] W w'

theorem Rw.apart {α β : Type} {enc : α → List Value} {enc' : β → List Value} {k k' : Nat} {E E' : TypeId} {w : World} {v v' : Value} {xs : List α} {ys : List β} (h : Rw enc k E w v xs) (h' : Rw enc' k' E' w v' ys) (hE : E ≠ E') : ∀ g, v.ownBlock = some g → v'.ownBlock ≠ some g := by
  intro g hg hg'
  rcases h.2 with ⟨rfl, _⟩ | ⟨g1, cap, cur, rfl, _, hh, _⟩
  · simp [Value.ownBlock] at hg
  · rcases h'.2 with ⟨rfl, _⟩ | ⟨g2, cap', cur', rfl, _, hh', _⟩
    · simp [Value.ownBlock] at hg'
    · simp [Value.ownBlock] at hg hg'
      subst hg hg'
      rw [hh] at hh'
      injection hh' with hh'
      injection hh' with _ ht
      exact hE ht

set_option maxHeartbeats 1600000 in
theorem intIndex_any (v : Value) (xs : List Int) (z : Int) (hx : xs.length < 1000000) (w : World) (h : RI w v xs) :
    Calls Try.prog 63 #[v, .int .i64 z] w fun e w' => e = .returned (.int .i64 (idxI (fun y => z == y) xs)) ∧ w = w' := by
  obtain ⟨a, cap, rfl⟩ := h.val
  obtain ⟨n, hn⟩ : ∃ n, n = xs.length := ⟨_, rfl⟩
  rw [← hn] at h ⊢
  have HN := Lib.hid hn
  have hn1 : n < 1000000 := by omega
  clear hn hx
  go_enter Try.func63, Try.ntmps63
  go_wp2_with fail
  go_loop [5, 8] (fun _ iv => ∃ (k : Nat), k ≤ n ∧ iv = .int .i64 k ∧ Hid (∀ (j : Nat) x, j < k → xs[j]? = some x → (z == x) = false)) (fun _ iv => n - (intOf iv).toNat)
  case atStart => exact ⟨0, Nat.zero_le _, rfl, fun j x hj => absurd hj (Nat.not_lt_zero _)⟩
  case round =>
    obtain ⟨k, hkn, rfl, hall⟩ := hrel
    by_cases hlt : k < n
    · obtain ⟨x, hxk⟩ : ∃ x, xs[k]? = some x := ⟨_, List.getElem?_eq_getElem (by rw [← HN.out]; exact hlt)⟩
      have d1 : decide (k < n) = true := decide_eq_true hlt
      obtain ⟨gb, rfl, hgl⟩ := h.addr (by omega)
      have hx0 := h.cell encI_ok.len hxk 0 (by omega)
      simp only [encI, Nat.add_zero, Nat.mul_one, List.getElem?_cons_zero] at hx0
      have b1 : (0 : Int) ≤ (k : Int) := by omega
      have b2 : (k : Int) < (n : Int) := by omega
      have HXK := Lib.hid hxk
      clear h hxk
      cases hq : (z == x)
      · go_wp2_with fail
        refine ⟨⟨k + 1, by omega, rfl, ?_⟩, by simp [intOf]; omega⟩
        intro j y hj hy
        rcases Nat.lt_or_ge j k with h1 | h1
        · exact hall.out j y h1 hy
        · have : j = k := by omega
          rw [this, HXK.out] at hy
          injection hy with hy
          rw [← hy]; exact hq
      · go_wp2_with fail
        go_ret
        exact ⟨ret_int (idxI_some HXK.out hq hall.out), rfl⟩
    · have d1 : decide (k < n) = false := decide_eq_false hlt
      go_wp2_with fail
      go_ret
      exact ⟨ret_int (idxI_none (fun j x hx => hall.out j x (by have := (List.getElem?_eq_some_iff.1 hx).1; have := HN.out; omega) hx)), rfl⟩

def hasI (xs : List Int) (z : Int) : Bool := xs.any (fun y => z == y)

theorem idxI_has {α : Type} (p : α → Bool) (xs : List α) : (idxI p xs = -1 ∧ xs.any p = false) ∨ (∃ i : Nat, idxI p xs = (i : Int) ∧ xs.any p = true) := by
  rcases idxI_spec p xs with ⟨h1, h2⟩ | ⟨i, x, h1, h2, _, h3⟩
  · exact .inl ⟨h1, by rw [List.any_eq_false]; intro x hx; simp [h2 x hx]⟩
  · exact .inr ⟨i, h3, by rw [List.any_eq_true]; exact ⟨x, List.mem_of_getElem? h1, h2⟩⟩

set_option maxHeartbeats 800000 in
theorem intContains_any (v : Value) (xs : List Int) (z : Int) (hx : xs.length < 1000000) (w : World) (h : RI w v xs) :
    Calls Try.prog 56 #[v, .int .i64 z] w fun e w' => e = .returned (.bool (hasI xs z)) ∧ w = w' := by
  have hat := intIndex_any v xs z hx w h
  obtain ⟨a, cap, rfl⟩ := h.val
  rcases idxI_has (fun y => z == y) xs with ⟨h1, h2⟩ | ⟨i, h1, h2⟩
  all_goals
    have H2 : Hid (hasI xs z = _) := h2
    rw [h1] at hat
    clear h h1 h2
    go_enter Try.func56, Try.ntmps56
    go_wp2_with fail
    refine hat.mono ?_
    rintro e w1 ⟨rfl, rfl⟩
    go_wp2_with fail
    go_ret
    exact ⟨ret_bool H2.out, rfl⟩
end Go.Proofs.Ytlagogjnoibkcaa
