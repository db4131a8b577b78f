/- The book as an object, and what the chapter tells by example. -/
import Derived.Test.YtlagogjnoibkcaaBook
namespace Go.Proofs.Ytlagogjnoibkcaa
open Go.RowKit
set_option linter.unusedVariables false
set_option linter.unusedSimpArgs false

abbrev BO := @OO Ad encAd 3 69 (fun v => #[v]) 65

theorem bo_new (w : World) : Calls Try.prog 11 #[] w fun e w' => e = .returned (.pointer (some ⟨w.heap.size, 0, none⟩)) ∧ BO w' w.heap.size [w.heap.size] [] ∧ Ext [] w w' :=
  (new_any w).mono fun _ _ ⟨h1, h2, h3⟩ => ⟨h1, ⟨_, h2, rfl⟩, h3⟩

theorem bo_has (b : Nat) (S : List Nat) (xs : List Ad) (id : Int) (hx : xs.length < 1000000) (w : World) (h : BO w b S xs) :
    Calls Try.prog 23 #[.pointer (some ⟨b, 0, none⟩), .int .i64 id] w fun e w' => e = .returned (.bool (xs.any (sameId id))) ∧ Ext [] w w' := by
  obtain ⟨v, h, rfl⟩ := h; exact has_any b v xs id hx w h
theorem bo_live (b : Nat) (S : List Nat) (xs : List Ad) (hx : xs.length < 1000000) (w : World) (h : BO w b S xs) :
    Calls Try.prog 18 #[.pointer (some ⟨b, 0, none⟩)] w fun e w' => e = .returned (.int .i64 xs.length) ∧ Ext [] w w' := by
  obtain ⟨v, h, rfl⟩ := h; exact live_any b v xs hx w h
theorem bo_host (b : Nat) (S : List Nat) (xs : List Ad) (key : ByteArray) (hx : xs.length < 1000000) (w : World) (h : BO w b S xs) :
    Calls Try.prog 19 #[.pointer (some ⟨b, 0, none⟩), .string key] w fun e w' => e = .returned (.int .i64 (xs.filter (sameKey key)).length) ∧ Ext [] w w' := by
  obtain ⟨v, h, rfl⟩ := h; exact host_any b v xs key hx w h
theorem bo_group (b : Nat) (S : List Nat) (xs : List Ad) (g : Int) (hx : xs.length < 1000000) (w : World) (h : BO w b S xs) :
    Calls Try.prog 21 #[.pointer (some ⟨b, 0, none⟩), .int .i64 g] w fun e w' => e = .returned (.int .i64 (xs.filter (sameGroup g)).length) ∧ Ext [] w w' := by
  obtain ⟨v, h, rfl⟩ := h; exact group_any b v xs g hx w h

/-- Who is left when one has gone. -/
def giveL (xs : List Ad) (id : Int) : List Ad := xs.eraseP (sameId id)
def bookOf (xs : List Ad) (id : Int) (key : ByteArray) (g : Int) : List Ad := if takeC xs id key g = 0 then xs ++ [⟨id, g, key⟩] else xs

theorem eraseP_at {α : Type} {p : α → Bool} : ∀ {xs : List α} {i : Nat} {x : α}, xs[i]? = some x → p x = true → (∀ (j : Nat) y, j < i → xs[j]? = some y → p y = false) → xs.eraseP p = xs.eraseIdx i
  | [], i, x, h, _, _ => by simp at h
  | y :: xs, 0, x, h, hp, _ => by simp at h; subst h; simp [hp]
  | y :: xs, i + 1, x, h, hp, hj => by
    have h0 := hj 0 y (by omega) rfl
    rw [List.eraseP_cons_of_neg (by simp [h0]), List.eraseIdx_cons_succ, eraseP_at (by simpa using h) hp (fun j z hji hz => hj (j + 1) z (by omega) (by simpa using hz))]

theorem bo_give (b : Nat) (S : List Nat) (xs : List Ad) (id : Int) (hx : xs.length < 1000000) (w : World) (h : BO w b S xs) :
    Calls Try.prog 14 #[.pointer (some ⟨b, 0, none⟩), .int .i64 id] w fun e w' =>
      e = .returned (.bool (xs.any (sameId id))) ∧ BO w' b S (giveL xs id) ∧ Ext S w w' := by
  obtain ⟨v, h, rfl⟩ := h
  refine (give_any b v xs id hx w h).mono ?_
  rintro e w' (⟨h1, h2, h3, h4⟩ | ⟨i, x, v', h1, h2, h3, h4, h5, h6, h7⟩)
  · refine ⟨h2.trans (ret_bool ?_), ⟨v, ?_, rfl⟩, h4.mono (by simp)⟩
    · rw [List.any_eq_false]; intro x hx; simp [h1 x hx]
    · unfold giveL; rw [List.eraseP_of_forall_not (by intro x hx; simp [h1 x hx])]; exact h3
  · refine ⟨h4.trans (ret_bool ?_), ⟨v', ?_, by rw [h6]⟩, h7⟩
    · rw [List.any_eq_true]; exact ⟨x, List.mem_of_getElem? h1, h2⟩
    · unfold giveL; rw [eraseP_at h1 h2 h3]; exact h5

theorem bo_take (b : Nat) (S : List Nat) (xs : List Ad) (id : Int) (key : ByteArray) (g : Int) (hx : xs.length < 100000) (w : World) (h : BO w b S xs) :
    Calls Try.prog 16 #[.pointer (some ⟨b, 0, none⟩), .int .i64 id, .string key, .int .i64 g] w fun e w' =>
      e = .returned (.int .i64 (takeC xs id key g)) ∧ ∃ S', BO w' b S' (bookOf xs id key g) ∧ Ext S w w' ∧ (∀ x ∈ S', x ∈ S ∨ w.heap.size ≤ x) := by
  obtain ⟨v, h, rfl⟩ := h
  refine (take_any b v xs id key g hx w h).mono ?_
  rintro e w' (⟨h1, h2, h3, h4⟩ | ⟨h1, h2, v', h3, h4, h5⟩)
  · exact ⟨h2, _, ⟨v, by unfold bookOf; rw [if_neg h1]; exact h3, rfl⟩, h4.mono (by simp), fun x hx => .inl hx⟩
  · exact ⟨by rw [h2, h1], _, ⟨v', by unfold bookOf; rw [if_pos h1]; exact h3, rfl⟩, h4, h5⟩

theorem bookOf_len (xs : List Ad) (id : Int) (key : ByteArray) (g : Int) : (bookOf xs id key g).length ≤ xs.length + 1 := by
  unfold bookOf; split <;> simp
theorem giveL_len (xs : List Ad) (id : Int) : (giveL xs id).length ≤ xs.length := by
  unfold giveL; exact List.length_eraseP_le


set_option maxHeartbeats 1600000 in
theorem awakeA_any (w : World) : Calls Try.prog 10 #[] w fun e w' => e = .returned (.bool true) ∧ Ext [] w w' := by
  go_enter Try.func10, Try.ntmps10
  go_wp2_with fail
  refine (bo_new w).mono ?_
  rintro e w1 ⟨rfl, h1, e1⟩
  have k1 : ∀ x ∈ [w.heap.size], w.heap.size ≤ x := by simp
  obtain ⟨b, hb⟩ : ∃ b, w.heap.size = b := ⟨_, rfl⟩
  rw [hb] at h1 k1
  go_wp2_with fail
  refine (bo_take b _ [] 1 ⟨#[97]⟩ 1 (by simp) w1 h1).mono ?_
  rintro e w2 ⟨rfl, S2, h2, e2, k2⟩
  have t2 : takeC [] 1 ⟨#[97]⟩ 1 = 0 := by decide +kernel
  have l2 : bookOf [] 1 ⟨#[97]⟩ 1 = [⟨1, 1, ⟨#[97]⟩⟩] := by unfold bookOf; rw [if_pos t2]; rfl
  rw [l2] at h2
  rw [t2]
  clear t2 l2
  go_wp2_with fail
  refine (bo_take b _ [⟨1, 1, ⟨#[97]⟩⟩] 1 ⟨#[98]⟩ 2 (by simp) w2 h2).mono ?_
  rintro e w3 ⟨rfl, S3, h3, e3, k3⟩
  have t3 : takeC [⟨1, 1, ⟨#[97]⟩⟩] 1 ⟨#[98]⟩ 2 = 16 := by decide +kernel
  have l3 : bookOf [⟨1, 1, ⟨#[97]⟩⟩] 1 ⟨#[98]⟩ 2 = [⟨1, 1, ⟨#[97]⟩⟩] := by unfold bookOf; rw [if_neg (by rw [t3]; decide)]
  rw [l3] at h3
  rw [t3]
  clear t3 l3
  go_wp2_with fail
  refine (bo_give b _ _ 1 (by simp) w3 h3).mono ?_
  rintro e w4 ⟨rfl, h4, e4⟩
  have t4 : ([⟨1, 1, ⟨#[97]⟩⟩] : List Ad).any (sameId 1) = true := by decide +kernel
  have l4 : giveL [⟨1, 1, ⟨#[97]⟩⟩] 1 = [] := by simp [giveL, sameId]
  rw [l4] at h4
  rw [t4]
  clear t4 l4
  go_wp2_with fail
  refine (bo_give b _ _ 1 (by simp) w4 h4).mono ?_
  rintro e w5 ⟨rfl, h5, e5⟩
  have t5 : ([] : List Ad).any (sameId 1) = false := rfl
  have l5 : giveL [] 1 = [] := rfl
  rw [l5] at h5
  rw [t5]
  clear t5 l5
  have hl := bo_live b _ _ (by simp) w5 h5
  go_wp2_with fail
  refine hl.mono ?_
  rintro e w6 ⟨rfl, e6⟩
  go_wp2_with fail
  go_ret
  refine ⟨rfl, ?_⟩
  have s1 := e1.size; have s2 := e2.size; have s3 := e3.size
  rw [hb] at s1
  have K2 := own_ge k1 k2 s1
  have K3 := own_ge K2 k3 (by omega)
  exact (((((e1.fresh e2 (by rw [hb]; exact k1)).fresh e3 (by rw [hb]; exact K2)).fresh e4 (by rw [hb]; exact K3)).fresh e5 (by rw [hb]; exact K3)).trans e6 (by simp))
end Go.Proofs.Ytlagogjnoibkcaa
