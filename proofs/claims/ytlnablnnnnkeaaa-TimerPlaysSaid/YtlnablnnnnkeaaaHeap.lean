/- The wheel's row is a heap: plain law, without the program. -/
import Derived.Test.YtlnablnnnnkeaaaCut
namespace Go.Proofs.Ytlnablnnnnkeaaa
set_option linter.unusedVariables false

/-- a is not behind b. -/
def leO (a b : One) : Prop := aheadB b a = false
theorem leO_iff (a b : One) : leO a b ↔ (a.at_ < b.at_ ∨ a.at_ = b.at_ ∧ a.id ≤ b.id) := by
  unfold leO aheadB
  simp only [Bool.or_eq_false_iff, decide_eq_false_iff_not, Bool.and_eq_false_iff, beq_eq_false_iff_ne]
  constructor
  · rintro ⟨h1, h2 | h2⟩
    · left; omega
    · rcases Int.lt_trichotomy a.at_ b.at_ with h | h | h
      · exact .inl h
      · exact .inr ⟨h, by omega⟩
      · omega
  · rintro (h | ⟨h1, h2⟩)
    · exact ⟨by omega, .inl (by omega)⟩
    · exact ⟨by omega, .inr (by omega)⟩
theorem ah_iff (a b : One) : aheadB a b = true ↔ (a.at_ < b.at_ ∨ a.at_ = b.at_ ∧ a.id < b.id) := by
  unfold aheadB
  simp [Bool.or_eq_true, Bool.and_eq_true]
theorem leO_refl (a : One) : leO a a := by rw [leO_iff]; omega
theorem leO_trans {a b c : One} (h : leO a b) (k : leO b c) : leO a c := by rw [leO_iff] at *; omega
theorem leO_ah {a b : One} (h : aheadB a b = true) : leO a b := by rw [ah_iff] at h; rw [leO_iff]; omega

/-- The edge above place j is in order. -/
def Edge (xs : List One) (j : Nat) : Prop := ∀ x y, xs[j]? = some x → xs[(j - 1) / 2]? = some y → leO y x
/-- What stands below place i is not ahead of what stands above it. -/
def Span (xs : List One) (i : Nat) : Prop := 0 < i → ∀ c z y, 0 < c → (c - 1) / 2 = i → xs[c]? = some z → xs[(i - 1) / 2]? = some y → leO y z
def Hp (xs : List One) : Prop := ∀ j, 0 < j → Edge xs j

theorem sw_get {xs : List One} {i p : Nat} (hi : i < xs.length) (hp : p < xs.length) (x y : One) (j : Nat) :
    ((xs.set i y).set p x)[j]? = if j = p then some x else if j = i then some y else xs[j]? := by
  by_cases h1 : j = p
  · subst h1
    rw [if_pos rfl, List.getElem?_set_self (by simpa using hp)]
  · rw [if_neg h1, List.getElem?_set_ne (Ne.symm h1)]
    by_cases h2 : j = i
    · subst h2
      rw [if_pos rfl, List.getElem?_set_self hi]
    · rw [if_neg h2, List.getElem?_set_ne (Ne.symm h2)]

theorem sw_perm {xs : List One} {i p : Nat} {x y : One} (hx : xs[i]? = some x) (hy : xs[p]? = some y) : ((xs.set i y).set p x).Perm xs := by
  obtain ⟨h1, rfl⟩ := List.getElem?_eq_some_iff.1 hx
  obtain ⟨h2, rfl⟩ := List.getElem?_eq_some_iff.1 hy
  exact List.set_set_perm h1 h2

theorem up_heap : ∀ (i : Nat) (xs : List One), i < xs.length → (∀ j, 0 < j → j ≠ i → Edge xs j) → Span xs i → Hp (upF xs i) ∧ (upF xs i).Perm xs := by
  intro i
  induction i using Nat.strongRecOn with
  | ind i ih =>
    intro xs hil he hs
    by_cases h0 : i = 0
    · subst h0
      rw [upF_zero]
      exact ⟨fun j hj => he j hj (by omega), .refl _⟩
    have hpl : (i - 1) / 2 < i := by omega
    have hx := List.getElem?_eq_getElem hil
    have hy := List.getElem?_eq_getElem (show (i - 1) / 2 < xs.length by omega)
    generalize xs[i] = x at hx
    generalize xs[(i - 1) / 2]'(by omega) = y at hy
    cases hab : aheadB x y
    · rw [upF_stop xs i h0 x y hx hy hab]
      refine ⟨fun j hj => ?_, .refl _⟩
      by_cases hji : j = i
      · subst hji
        intro x' y' hx' hy'
        rw [hx] at hx'; rw [hy] at hy'
        injection hx' with hx'; injection hy' with hy'
        subst hx' hy'
        exact hab
      · exact he j hj hji
    · rw [upF_go xs i h0 x y hx hy hab]
      have hxy := leO_ah hab
      have hp : (i - 1) / 2 < xs.length := by omega
      have hg := sw_get hil hp x y
      generalize hP : (i - 1) / 2 = p at *
      have hperm := sw_perm hx hy
      generalize (xs.set i y).set p x = ys at *
      have hlen : ys.length = xs.length := hperm.length_eq
      refine (ih p hpl ys (by omega) ?_ ?_).imp id (fun h => h.trans hperm)
      · intro j hj hjp x' y' hx' hy'
        rw [hg, if_neg hjp] at hx'
        by_cases hji : j = i
        · subst hji
          rw [if_pos rfl] at hx'
          injection hx' with hx'; subst hx'
          rw [hP, hg, if_pos rfl] at hy'
          injection hy' with hy'; subst hy'
          exact hxy
        · rw [if_neg hji] at hx'
          rw [hg] at hy'
          by_cases hq : (j - 1) / 2 = p
          · rw [if_pos hq] at hy'
            injection hy' with hy'; subst hy'
            have := he j hj hji x' y hx' (by rw [hq]; exact hy)
            exact leO_trans hxy this
          · rw [if_neg hq] at hy'
            by_cases hq2 : (j - 1) / 2 = i
            · rw [if_pos hq2] at hy'
              injection hy' with hy'; subst hy'
              exact hs (by omega) j x' y hj hq2 hx' (by rw [hP]; exact hy)
            · rw [if_neg hq2] at hy'
              exact he j hj hji x' y' hx' hy'
      · intro hp0 c z q hc hcp hz hq
        have hne1 : (p - 1) / 2 ≠ p := by omega
        have hne2 : (p - 1) / 2 ≠ i := by omega
        rw [hg, if_neg hne1, if_neg hne2] at hq
        have hqy : leO q y := he p hp0 (by omega) y q hy hq
        rw [hg, if_neg (by omega)] at hz
        by_cases hci : c = i
        · rw [if_pos hci] at hz
          injection hz with hz; subst hz
          exact hqy
        · rw [if_neg hci] at hz
          exact leO_trans hqy (he c hc hci z y hz (by rw [hcp]; exact hy))

/-- The place that stepK tells is not behind any of those that it looked at. -/
theorem stepK_least (xs : List One) (i : Nat) (hi : i < xs.length) : ∀ m z, xs[stepK xs i m]? = some z →
    (∀ x, xs[i]? = some x → leO z x) ∧ ∀ r, r < m → ∀ x, xs[2 * i + 1 + r]? = some x → leO z x
  | 0, z, hz => ⟨fun x hx => by rw [stepK, hx] at hz; injection hz with hz; subst hz; exact leO_refl _, fun r hr => absurd hr (Nat.not_lt_zero _)⟩
  | m + 1, z, hz => by
    have hy := List.getElem?_eq_getElem (stepK_lt xs i hi m)
    generalize xs[stepK xs i m]'(stepK_lt xs i hi m) = y at hy
    obtain ⟨h1, h2⟩ := stepK_least xs i hi m y hy
    cases hx : xs[2 * i + 1 + m]? with
    | none =>
      rw [stepK_over xs i m (by rw [List.getElem?_eq_none_iff] at hx; omega), hy] at hz
      injection hz with hz; subst hz
      refine ⟨h1, fun r hr x hx' => ?_⟩
      rcases Nat.lt_or_ge r m with h | h
      · exact h2 r h x hx'
      · have : r = m := by omega
        rw [this, hx] at hx'; cases hx'
    | some x =>
      cases hab : aheadB x y
      · rw [stepK_no xs i m x y hx hy hab, hy] at hz
        injection hz with hz; subst hz
        refine ⟨h1, fun r hr x' hx' => ?_⟩
        rcases Nat.lt_or_ge r m with h | h
        · exact h2 r h x' hx'
        · have : r = m := by omega
          rw [this, hx] at hx'; injection hx' with hx'; subst hx'
          exact hab
      · rw [stepK_yes xs i m x y hx hy hab, hx] at hz
        injection hz with hz; subst hz
        have hxy := leO_ah hab
        refine ⟨fun x' hx' => leO_trans hxy (h1 x' hx'), fun r hr x' hx' => ?_⟩
        rcases Nat.lt_or_ge r m with h | h
        · exact leO_trans hxy (h2 r h x' hx')
        · have : r = m := by omega
          rw [this, hx] at hx'; injection hx' with hx'; subst hx'
          exact leO_refl _

theorem stepK_form (xs : List One) (i : Nat) : ∀ m, stepK xs i m = i ∨ ∃ r, r < m ∧ stepK xs i m = 2 * i + 1 + r
  | 0 => .inl rfl
  | m + 1 => by
    have ih : stepK xs i m = i ∨ ∃ r, r < m + 1 ∧ stepK xs i m = 2 * i + 1 + r := by
      rcases stepK_form xs i m with h | ⟨r, hr, h⟩
      · exact .inl h
      · exact .inr ⟨r, by omega, h⟩
    rw [stepK]
    split
    · split
      · exact .inr ⟨m, by omega, rfl⟩
      · exact ih
    · exact ih

/-- A step down: what is known ahead of it, behind it. The edge above the start may be out of order. -/
theorem down_step (xs : List One) (i k : Nat) (hil : i < xs.length) (hk : stepK xs i 2 = k) (hki : k ≠ i) (he : ∀ j, 0 < j → j ≠ i → (j - 1) / 2 ≠ i → Edge xs j) (hs : Span xs i) (x z : One) (hx : xs[i]? = some x) (hz : xs[k]? = some z) :
    (∀ j, 0 < j → (j - 1) / 2 ≠ k → Edge ((xs.set i z).set k x) j) ∧ Span ((xs.set i z).set k x) k := by
  have hb := stepK_bd xs i hil 2
  rw [hk] at hb
  have hkl : k < xs.length := by omega
  have hik : (k - 1) / 2 = i := by
    rcases stepK_form xs i 2 with h | ⟨r, hr, h⟩ <;> omega
  obtain ⟨hl1, hl2⟩ := stepK_least xs i hil 2 z (by rw [hk]; exact hz)
  have hg := sw_get hil hkl x z
  generalize (xs.set i z).set k x = ys at *
  have hsx : leO z x := hl1 x hx
  constructor
  · intro j hj hjk x' y' hx' hy'
    rw [hg] at hx' hy'
    rw [if_neg hjk] at hy'
    by_cases h1 : j = k
    · rw [if_pos h1] at hx'
      injection hx' with hx'; subst hx'
      rw [h1, if_pos hik] at hy'
      injection hy' with hy'; subst hy'
      exact hsx
    · rw [if_neg h1] at hx'
      by_cases h2 : j = i
      · rw [if_pos h2] at hx'
        injection hx' with hx'; subst hx'
        rw [h2, if_neg (by omega)] at hy'
        exact hs (by omega) k z y' (by omega) hik hz hy'
      · rw [if_neg h2] at hx'
        by_cases h3 : (j - 1) / 2 = i
        · rw [if_pos h3] at hy'
          injection hy' with hy'; subst hy'
          have h4 : j = 2 * i + 1 + 0 ∨ j = 2 * i + 1 + 1 := by omega
          rcases h4 with h4 | h4
          · exact hl2 0 (by omega) x' (by rw [← h4]; exact hx')
          · exact hl2 1 (by omega) x' (by rw [← h4]; exact hx')
        · rw [if_neg h3] at hy'
          exact he j hj h2 h3 x' y' hx' hy'
  · intro hk0 c w y hc hck hw hy
    rw [hik, hg, if_neg (by omega), if_pos rfl] at hy
    injection hy with hy; subst hy
    rw [hg, if_neg (by omega), if_neg (by omega)] at hw
    exact he c hc (by omega) (by omega) w z hw (by rw [hck]; exact hz)

theorem down_heap : ∀ (n : Nat) (xs : List One) (i : Nat), xs.length - i ≤ n → i < xs.length → (∀ j, 0 < j → (j - 1) / 2 ≠ i → Edge xs j) → Span xs i → Hp (downF xs i) ∧ (downF xs i).Perm xs := by
  intro n
  induction n with
  | zero => intro xs i h hi; omega
  | succ n ih =>
    intro xs i hn hil he hs
    obtain ⟨k, hk⟩ : ∃ k, stepK xs i 2 = k := ⟨_, rfl⟩
    have hx := List.getElem?_eq_getElem hil
    generalize xs[i] = x at hx
    by_cases hki : k = i
    · rw [downF_stop xs i (by omega)]
      refine ⟨fun j hj => ?_, .refl _⟩
      by_cases h3 : (j - 1) / 2 = i
      · obtain ⟨hl1, hl2⟩ := stepK_least xs i hil 2 x (by rw [hk, hki]; exact hx)
        intro x' y' hx' hy'
        rw [h3, hx] at hy'
        injection hy' with hy'; subst hy'
        have h4 : j = 2 * i + 1 + 0 ∨ j = 2 * i + 1 + 1 := by omega
        rcases h4 with h4 | h4
        · exact hl2 0 (by omega) x' (by rw [← h4]; exact hx')
        · exact hl2 1 (by omega) x' (by rw [← h4]; exact hx')
      · exact he j hj h3
    · have hb := stepK_bd xs i hil 2
      rw [hk] at hb
      have hkl : k < xs.length := by omega
      have hz := List.getElem?_eq_getElem hkl
      generalize xs[k] = z at hz
      rw [downF_go xs i k hil hk hki x z hx hz]
      obtain ⟨h1, h2⟩ := down_step xs i k hil hk hki (fun j h0 _ h1 => he j h0 h1) hs x z hx hz
      exact (ih _ k (by simp; omega) (by simpa using hkl) h1 h2).imp id (fun h => h.trans (sw_perm hx hz))

theorem heap_span {xs : List One} (h : Hp xs) (i : Nat) : Span xs i := by
  intro hi c z y hc hci hz hy
  have hil : i < xs.length := by
    have := (List.getElem?_eq_some_iff.1 hz).1
    omega
  have hx := List.getElem?_eq_getElem hil
  exact leO_trans (h i hi _ y hx hy) (h c hc z _ hz (by rw [hci]; exact hx))

/-- What up makes of what down made, where the edge above the start may be out of order. -/
theorem mend_heap (xs : List One) (i : Nat) (hil : i < xs.length) (he : ∀ j, 0 < j → j ≠ i → (j - 1) / 2 ≠ i → Edge xs j) (hs : Span xs i) :
    Hp (upF (downF xs i) i) ∧ (upF (downF xs i) i).Perm xs := by
  obtain ⟨k, hk⟩ : ∃ k, stepK xs i 2 = k := ⟨_, rfl⟩
  have hx := List.getElem?_eq_getElem hil
  generalize xs[i] = x at hx
  by_cases hki : k = i
  · rw [downF_stop xs i (by omega)]
    refine up_heap i xs hil (fun j hj hji => ?_) hs
    by_cases h3 : (j - 1) / 2 = i
    · obtain ⟨hl1, hl2⟩ := stepK_least xs i hil 2 x (by rw [hk, hki]; exact hx)
      intro x' y' hx' hy'
      rw [h3, hx] at hy'
      injection hy' with hy'; subst hy'
      have h4 : j = 2 * i + 1 + 0 ∨ j = 2 * i + 1 + 1 := by omega
      rcases h4 with h4 | h4
      · exact hl2 0 (by omega) x' (by rw [← h4]; exact hx')
      · exact hl2 1 (by omega) x' (by rw [← h4]; exact hx')
    · exact he j hj hji h3
  · have hb := stepK_bd xs i hil 2
    rw [hk] at hb
    have hkl : k < xs.length := by omega
    have hz := List.getElem?_eq_getElem hkl
    generalize xs[k] = z at hz
    have hd : Hp (downF xs i) ∧ (downF xs i).Perm xs := by
      rw [downF_go xs i k hil hk hki x z hx hz]
      obtain ⟨h1, h2⟩ := down_step xs i k hil hk hki he hs x z hx hz
      exact (down_heap _ _ k (Nat.le_refl _) (by simpa using hkl) h1 h2).imp id (fun h => h.trans (sw_perm hx hz))
    have hl : (downF xs i).length = xs.length := hd.2.length_eq
    exact (up_heap i _ (by omega) (fun j hj _ => hd.1 j hj) (heap_span hd.1 i)).imp id (fun h => h.trans hd.2)

theorem nil_heap : Hp [] := by intro j hj x y hx; simp at hx

theorem arm_heap {xs : List One} (h : Hp xs) (x : One) : Hp (upF (xs ++ [x]) xs.length) ∧ (upF (xs ++ [x]) xs.length).Perm (x :: xs) := by
  have h1 : ∀ j, j < xs.length → (xs ++ [x])[j]? = xs[j]? := fun j hj => by rw [List.getElem?_append_left hj]
  refine (up_heap xs.length (xs ++ [x]) (by simp) ?_ ?_).imp id (fun h => h.trans ?_)
  · intro j hj hjl a b ha hb
    have hjx : j < xs.length := by
      have := (List.getElem?_eq_some_iff.1 ha).1
      simp at this; omega
    rw [h1 j hjx] at ha
    rw [h1 _ (by omega)] at hb
    exact h j hj a b ha hb
  · intro hi c z y hc hci hz
    have := (List.getElem?_eq_some_iff.1 hz).1
    simp at this; omega
  · exact List.perm_append_comm

theorem cut_heap {xs : List One} (h : Hp xs) {i : Nat} {t : One} (ht : xs[i]? = some t) : Hp (cutF xs i) ∧ (t :: cutF xs i).Perm xs := by
  have hil : i < xs.length := (List.getElem?_eq_some_iff.1 ht).1
  obtain ⟨m, hm⟩ : ∃ m, xs.length = m + 1 := ⟨xs.length - 1, by omega⟩
  have hz := List.getElem?_eq_getElem (l := xs) (i := m) (by omega)
  generalize xs[m]'(by omega) = z at hz
  have hcut : cutF xs i = if i < m then upF (downF ((xs.set i z).take m) i) i else (xs.set i z).take m := by
    unfold cutF
    rw [hm, Nat.add_sub_cancel, hz]
  rw [hcut]
  have hys : (t :: (xs.set i z).take m).Perm xs := by
    have hsp := sw_perm ht hz
    have h2 : (xs.set i z).set m t = (xs.set i z).take m ++ [t] := by
      apply List.ext_getElem?
      intro j
      have hml : m < (xs.set i z).length := by simp; omega
      rcases Nat.lt_trichotomy j m with hj | hj | hj
      · rw [List.getElem?_set_ne (by omega), List.getElem?_append_left (by simp; omega), List.getElem?_take_of_lt hj]
      · subst hj
        rw [List.getElem?_set_self hml, List.getElem?_append_right (by simp; omega)]
        simp [hm]
      · rw [List.getElem?_eq_none (by simp; omega), List.getElem?_eq_none (by simp; omega)]
    rw [h2] at hsp
    exact (List.perm_append_comm (l₁ := [t])).trans hsp
  have hgt : ∀ j, ((xs.set i z).take m)[j]? = if j < m then (if j = i then some z else xs[j]?) else none := by
    intro j
    by_cases hj : j < m
    · rw [if_pos hj, List.getElem?_take_of_lt hj]
      by_cases hji : j = i
      · subst hji; rw [if_pos rfl, List.getElem?_set_self hil]
      · rw [if_neg hji, List.getElem?_set_ne (Ne.symm hji)]
    · rw [if_neg hj, List.getElem?_eq_none (by simp; omega)]
  have hlen : ((xs.set i z).take m).length = m := by simp; omega
  generalize (xs.set i z).take m = ys at *
  by_cases him : i < m
  · rw [if_pos him]
    refine (mend_heap ys i (by omega) ?_ ?_).imp id (fun h => (h.cons t).trans hys)
    · intro j hj hji hjp x y hx hy
      rw [hgt] at hx hy
      split at hx
      · try rw [if_neg hji] at hx
        rw [if_pos (by omega), if_neg hjp] at hy
        exact h j hj x y hx hy
      · cases hx
    · intro hi c w y hc hci hw hy
      rw [hgt] at hw hy
      split at hw
      · try rw [if_neg (by omega)] at hw
        rw [if_pos (by omega), if_neg (by omega)] at hy
        exact heap_span h i hi c w y hc hci hw hy
      · cases hw
  · rw [if_neg him]
    refine ⟨fun j hj x y hx hy => ?_, hys⟩
    rw [hgt] at hx hy
    split at hx
    · try rw [if_neg (by omega)] at hx
      rw [if_pos (by omega), if_neg (by omega)] at hy
      exact h j hj x y hx hy
    · cases hx

/-- The first of a heap is not behind any. -/
theorem heap_least {xs : List One} (h : Hp xs) {t : One} (ht : xs[0]? = some t) : ∀ (j : Nat) (x : One), xs[j]? = some x → leO t x := by
  intro j
  induction j using Nat.strongRecOn with
  | ind j ih =>
    intro x hx
    by_cases h0 : j = 0
    · subst h0
      rw [ht] at hx; injection hx with hx; subst hx
      exact leO_refl _
    · have hjl := (List.getElem?_eq_some_iff.1 hx).1
      have hy := List.getElem?_eq_getElem (show (j - 1) / 2 < xs.length by omega)
      exact leO_trans (ih _ (by omega) _ hy) (h j (by omega) x _ hx hy)
end Go.Proofs.Ytlnablnnnnkeaaa
