/- Each is in one group at most: the plain law of GroupOne. -/
import Derived.Test.YtlagogjnoibkcaaGrAwake
namespace Go.Proofs.Ytlagogjnoibkcaa
open Go.RowKit
set_option linter.unusedVariables false
set_option linter.unusedSimpArgs false

def flatG (M : List Gk) : List Int := M.flatMap Gk.ids
theorem flatG_app (A B : List Gk) : flatG (A ++ B) = flatG A ++ flatG B := by unfold flatG; rw [List.flatMap_append]
theorem flatG_cons (s : Gk) (B : List Gk) : flatG (s :: B) = s.ids ++ flatG B := rfl
theorem gk_split {M : List Gk} {i : Nat} {s : Gk} (h : M[i]? = some s) : M = M.take i ++ s :: M.drop (i + 1) := by
  have hi := (List.getElem?_eq_some_iff.1 h).1
  have hv := (List.getElem?_eq_some_iff.1 h).2
  rw [← hv, ← List.drop_eq_getElem_cons hi, List.take_append_drop]
theorem gk_set {M : List Gk} {i : Nat} {s : Gk} (h : M[i]? = some s) (t : Gk) : M.set i t = M.take i ++ t :: M.drop (i + 1) := by
  rw [List.set_eq_take_append_cons_drop, if_pos (List.getElem?_eq_some_iff.1 h).1]

theorem inA_iff {x : Int} {s : Gk} : inA x s = true ↔ x ∈ s.ids := by
  unfold inA hasI
  rw [List.any_eq_true]
  constructor
  · rintro ⟨y, hy, h⟩
    have : x = y := by simpa using h
    rw [this]; exact hy
  · intro h; exact ⟨x, h, by simp⟩
theorem of_cases (M : List Gk) (x : Int) : (∃ (i : Nat) (s : Gk), M[i]? = some s ∧ x ∈ s.ids ∧ ofG M x = (i : Int) + 1) ∨ ((∀ s ∈ M, x ∉ s.ids) ∧ ofG M x = 0) := by
  unfold ofG
  rcases idxI_spec (inA x) M with ⟨h1, h2⟩ | ⟨i, s, h1, h2, h3, h4⟩
  · right
    refine ⟨fun s hs hm => ?_, by rw [h1]; rfl⟩
    have := h2 s hs
    rw [inA_iff.2 hm] at this; cases this
  · left
    exact ⟨i, s, h1, inA_iff.1 h2, by rw [h4]; omega⟩
theorem one_place {M : List Gk} : (flatG M).Nodup → ∀ {i j : Nat} {s t : Gk}, M[i]? = some s → M[j]? = some t → ∀ {x : Int}, x ∈ s.ids → x ∈ t.ids → i = j := by
  induction M with
  | nil => intro _ i j s t h; simp at h
  | cons y r ih =>
    intro h i j s t hs ht x hx hy
    rw [flatG_cons, List.nodup_append] at h
    obtain ⟨h1, h2, h3⟩ := h
    have hm : ∀ {k : Nat} {u : Gk}, r[k]? = some u → x ∈ u.ids → x ∈ flatG r := fun hk hu => List.mem_flatMap.2 ⟨_, List.mem_of_getElem? hk, hu⟩
    cases i with
    | zero =>
      cases j with
      | zero => rfl
      | succ j =>
        simp at hs ht; subst hs
        exact absurd rfl (h3 x hx x (hm ht hy))
    | succ i =>
      cases j with
      | zero =>
        simp at hs ht; subst ht
        exact absurd rfl (h3 x hy x (hm hs hx))
      | succ j =>
        simp at hs ht
        rw [ih h2 hs ht hx hy]
theorem of_in {M : List Gk} (h : (flatG M).Nodup) {i : Nat} {s : Gk} (hs : M[i]? = some s) {x : Int} (hx : x ∈ s.ids) : ofG M x = (i : Int) + 1 := by
  rcases of_cases M x with ⟨j, t, h1, h2, h3⟩ | ⟨h1, h2⟩
  · rw [h3, one_place h h1 hs h2 hx]
  · exact absurd hx (h1 s (List.mem_of_getElem? hs))
theorem of_out {M : List Gk} {x : Int} (h : ∀ s ∈ M, x ∉ s.ids) : ofG M x = 0 := by
  rcases of_cases M x with ⟨j, t, h1, h2, h3⟩ | ⟨h1, h2⟩
  · exact absurd h2 (h t (List.mem_of_getElem? h1))
  · exact h2

theorem sort_split : ∀ {xs : List Int} (z : Int), xs.Pairwise (· < ·) → (∀ x ∈ xs.take (xs.countP (· < z)), x < z) ∧ (∀ x ∈ xs.drop (xs.countP (· < z)), z ≤ x)
  | [], z, _ => by simp
  | y :: r, z, h => by
    rw [List.pairwise_cons] at h
    obtain ⟨h1, h2⟩ := sort_split z h.2
    by_cases hy : y < z
    · rw [List.countP_cons_of_pos (by simpa using hy), List.take_succ_cons, List.drop_succ_cons]
      exact ⟨fun x hx => (List.mem_cons.1 hx).elim (fun e => e ▸ hy) (fun hx => h1 x hx), h2⟩
    · have h0 : (y :: r).countP (fun x => decide (x < z)) = 0 := by
        rw [List.countP_eq_zero]
        intro x hx
        rcases List.mem_cons.1 hx with rfl | hx
        · simpa using hy
        · have := h.1 x hx; simp; omega
      rw [h0]
      refine ⟨by simp, fun x hx => ?_⟩
      rcases List.mem_cons.1 hx with rfl | hx
      · omega
      · have := h.1 x hx; omega
theorem insG_perm (z : Int) (xs : List Int) : (insG z xs).Perm (z :: xs) := by
  unfold insG
  refine List.perm_middle.trans ?_
  rw [List.take_append_drop]
theorem insG_mem {z x : Int} {xs : List Int} : x ∈ insG z xs ↔ x = z ∨ x ∈ xs := by
  rw [(insG_perm z xs).mem_iff, List.mem_cons]
theorem insG_sort {z : Int} {xs : List Int} (h : xs.Pairwise (· < ·)) (hz : z ∉ xs) : (insG z xs).Pairwise (· < ·) := by
  obtain ⟨h1, h2⟩ := sort_split z h
  unfold insG
  generalize hk : xs.countP (· < z) = k at h1 h2
  rw [List.pairwise_append, List.pairwise_cons]
  have hxs := h
  rw [← List.take_append_drop k xs, List.pairwise_append] at hxs
  refine ⟨hxs.1, ⟨fun x hx => ?_, hxs.2.1⟩, fun x hx y hy => ?_⟩
  · have e := h2 x hx
    have : x ≠ z := fun e => hz (e ▸ List.mem_of_mem_drop hx)
    omega
  · rcases List.mem_cons.1 hy with rfl | hy
    · exact h1 x hx
    · exact hxs.2.2 x hx y hy
theorem count_at : ∀ {xs : List Int} {z : Int}, xs.Pairwise (· < ·) → z ∈ xs → xs[xs.countP (· < z)]? = some z
  | [], z, _, h => by simp at h
  | y :: r, z, h, hm => by
    rw [List.pairwise_cons] at h
    by_cases hy : y < z
    · rw [List.countP_cons_of_pos (by simpa using hy), List.getElem?_cons_succ]
      exact count_at h.2 ((List.mem_cons.1 hm).elim (fun e => by omega) id)
    · have h0 : (y :: r).countP (fun x => decide (x < z)) = 0 := by
        rw [List.countP_eq_zero]
        intro x hx
        rcases List.mem_cons.1 hx with rfl | hx
        · simpa using hy
        · have := h.1 x hx; simp; omega
      rw [h0]
      rcases List.mem_cons.1 hm with rfl | hm
      · rfl
      · have := h.1 z hm; omega
theorem erase_perm {xs : List Int} {z : Int} (h : xs.Pairwise (· < ·)) (hm : z ∈ xs) : xs.Perm (z :: xs.eraseIdx (xs.countP (· < z))) := by
  have h1 := count_at h hm
  obtain ⟨hi, hv⟩ := List.getElem?_eq_some_iff.1 h1
  rw [List.eraseIdx_eq_take_drop_succ]
  conv => lhs; rw [← List.take_append_drop (xs.countP (· < z)) xs, List.drop_eq_getElem_cons hi, hv]
  exact List.perm_middle

structure OneInv (M : List Gk) (arr : List Int) (n : Nat) : Prop where
  len : M.length = 5
  torn : ∀ s ∈ M, s.torn = false
  sort : SortG M
  rng : ∀ s ∈ M, ∀ x ∈ s.ids, 1 ≤ x ∧ x ≤ 40
  nd : (flatG M).Nodup
  alen : arr.length = 101
  at_ : ∀ z : Nat, z < 101 → arr[z]? = some (ofG M z)
  cnt : n = (flatG M).length
theorem OneInv.lens {M : List Gk} {arr : List Int} {n : Nat} (h : OneInv M arr n) : ∀ s ∈ M, s.ids.length ≤ n := fun s hs => by
  obtain ⟨i, hi⟩ := List.mem_iff_getElem?.1 hs
  have := h.cnt
  rw [gk_split hi, flatG_app, flatG_cons] at this
  simp at this; omega

theorem mem_set {M : List Gk} {i : Nat} {s t : Gk} (h : M[i]? = some s) {u : Gk} : u ∈ M.set i t → u ∈ M ∨ u = t := fun hm => List.mem_or_eq_of_mem_set hm

/-- A group is changed, z comes or goes: the table follows. -/
theorem OneInv.set {M : List Gk} {arr : List Int} {n n' : Nat} (h : OneInv M arr n) {i : Nat} {s : Gk} (hs : M[i]? = some s) {l : List Int} {z : Nat} {v : Int} (hz : z < 101) (hso : l.Pairwise (· < ·)) (hr : ∀ x ∈ l, 1 ≤ x ∧ x ≤ 40)
    (hnd : (flatG (M.set i ⟨l, false⟩)).Nodup) (hl : ∀ x : Int, x ≠ z → (x ∈ l ↔ x ∈ s.ids)) (hv : ofG (M.set i ⟨l, false⟩) z = v) (hn : n' = (flatG (M.set i ⟨l, false⟩)).length) :
    OneInv (M.set i ⟨l, false⟩) (arr.set z v) n' := by
  have hil := (List.getElem?_eq_some_iff.1 hs).1
  refine ⟨by rw [List.length_set]; exact h.len, fun u hu => ?_, fun u hu => ?_, fun u hu => ?_, hnd, by rw [List.length_set]; exact h.alen, fun y hy => ?_, hn⟩
  · rcases mem_set (s := s) hs hu with hu | rfl
    · exact h.torn u hu
    · rfl
  · rcases mem_set (s := s) hs hu with hu | rfl
    · exact h.sort u hu
    · exact hso
  · rcases mem_set (s := s) hs hu with hu | rfl
    · exact h.rng u hu
    · exact hr
  · rw [List.getElem?_set]
    by_cases hyz : z = y
    · rw [if_pos hyz, if_pos (by rw [h.alen]; exact hz), ← hyz, hv]
    · rw [if_neg hyz, h.at_ y hy]
      congr 1
      have hyz' : (y : Int) ≠ (z : Int) := by omega
      rcases of_cases M (y : Int) with ⟨j, t, h1, h2, h3⟩ | ⟨h1, h2⟩
      · rw [h3]
        by_cases hij : i = j
        · subst hij
          rw [hs] at h1
          injection h1 with h1
          subst h1
          exact (of_in hnd (i := i) (s := ⟨l, false⟩) (by rw [List.getElem?_set, if_pos rfl, if_pos hil]) ((hl _ hyz').2 h2)).symm
        · exact (of_in hnd (i := j) (s := t) (by rw [List.getElem?_set, if_neg hij]; exact h1) h2).symm
      · rw [h2]
        refine (of_out (fun u hu hm => ?_)).symm
        rcases mem_set (s := s) hs hu with hu | rfl
        · exact h1 u hu hm
        · exact h1 s (List.mem_of_getElem? hs) ((hl _ hyz').1 hm)

theorem OneInv.join {M : List Gk} {arr : List Int} {n : Nat} (h : OneInv M arr n) {i z : Nat} (hi : i < 5) (h1 : 1 ≤ z) (h40 : z ≤ 40) :
    (ofG M z = 0 → ∃ M', joinG M ((i : Int) + 1) z = (0, M') ∧ OneInv M' (arr.set z ((i : Int) + 1)) (n + 1)) ∧ (ofG M z ≠ 0 → joinG M ((i : Int) + 1) z = (16, M)) := by
  obtain ⟨s, hs⟩ : ∃ s, M[i]? = some s := ⟨_, List.getElem?_eq_getElem (by rw [h.len]; exact hi)⟩
  have hsm := List.mem_of_getElem? hs
  have hh : hasM M ((i : Int) + 1) = true := by unfold hasM; rw [h.len]; simp; omega
  have hj : joinG M ((i : Int) + 1) z = if 0 < ofG M z then (16, M) else (0, M.set i ⟨insG z s.ids, s.torn⟩) := by
    unfold joinG
    rw [if_neg (by rw [hh]; decide), show ((i : Int) + 1 - 1).toNat = i by omega, hs]
    show (if s.torn = true then _ else _) = _
    rw [if_neg (by rw [h.torn s hsm]; decide), if_neg (by omega)]
  rw [h.torn s hsm] at hj
  constructor
  · intro h0
    rw [if_neg (by rw [h0]; decide)] at hj
    have hno : ∀ u ∈ M, (z : Int) ∉ u.ids := by
      rcases of_cases M (z : Int) with ⟨j, t, h1, h2, h3⟩ | ⟨h1, h2⟩
      · rw [h3] at h0; omega
      · exact h1
    have hfp : (flatG (M.set i ⟨insG z s.ids, false⟩)).Perm ((z : Int) :: flatG M) := by
      rw [gk_set hs, flatG_app, flatG_cons]
      conv => rhs; rw [gk_split hs, flatG_app, flatG_cons]
      refine (List.Perm.append_left _ ((insG_perm (z : Int) s.ids).append_right _)).trans ?_
      rw [List.cons_append]
      exact List.perm_middle
    have hnd : (flatG (M.set i ⟨insG z s.ids, false⟩)).Nodup := by
      rw [hfp.nodup_iff, List.nodup_cons]
      refine ⟨fun hm => ?_, h.nd⟩
      obtain ⟨u, hu, hz⟩ := List.mem_flatMap.1 hm
      exact hno u hu hz
    refine ⟨_, hj, h.set hs (by omega) (insG_sort (h.sort s hsm) (hno s hsm)) (fun x hx => ?_) hnd (fun x hx => ?_) ?_ ?_⟩
    · rcases insG_mem.1 hx with rfl | hx
      · omega
      · exact h.rng s hsm x hx
    · rw [insG_mem]
      exact ⟨fun e => e.resolve_left hx, .inr⟩
    · exact of_in hnd (i := i) (s := ⟨insG z s.ids, false⟩) (by rw [List.getElem?_set, if_pos rfl, if_pos (List.getElem?_eq_some_iff.1 hs).1]) (insG_mem.2 (.inl rfl))
    · rw [hfp.length_eq, List.length_cons, ← h.cnt]
  · intro h0
    rw [hj, if_pos]
    rcases of_cases M (z : Int) with ⟨j, t, h1, h2, h3⟩ | ⟨h1, h2⟩
    · omega
    · exact absurd h2 h0

theorem OneInv.leave {M : List Gk} {arr : List Int} {n : Nat} (h : OneInv M arr n) {z : Nat} (h1 : 1 ≤ z) (h40 : z ≤ 40) :
    (ofG M z = 0 → leaveG M z = ((0, false), M)) ∧ (ofG M z ≠ 0 → ∃ M', leaveG M z = ((ofG M z, true), M') ∧ OneInv M' (arr.set z 0) (n - 1) ∧ 1 ≤ n ∧ 0 < ofG M z) := by
  unfold leaveG
  rcases idxI_spec (inA (z : Int)) M with ⟨g1, g2⟩ | ⟨i, s, g1, g2, g3, g4⟩
  · have h0 : ofG M z = 0 := by unfold ofG; rw [g1]; rfl
    refine ⟨fun _ => by rw [List.findIdx?_eq_none_iff.2 g2], fun hne => absurd h0 hne⟩
  · have h0 : ofG M z = (i : Int) + 1 := by unfold ofG; rw [g4]; omega
    refine ⟨fun e => by omega, fun _ => ?_⟩
    have hsm := List.mem_of_getElem? g1
    have hzs : (z : Int) ∈ s.ids := inA_iff.1 g2
    have hep := erase_perm (h.sort s hsm) hzs
    have hM' : ∀ t, M.set i ⟨s.ids.eraseIdx (s.ids.countP (· < (z : Int))), s.torn⟩ = t → t = M.set i ⟨s.ids.eraseIdx (s.ids.countP (· < (z : Int))), false⟩ := fun t e => by rw [← e, h.torn s hsm]
    rw [find_ofG g1 g2 g3]
    simp only [g1]
    refine ⟨M.set i ⟨s.ids.eraseIdx (s.ids.countP (· < (z : Int))), false⟩, by rw [h0, h.torn s hsm], ?_, ?_, by omega⟩
    · have hsub := List.eraseIdx_sublist s.ids (s.ids.countP (· < (z : Int)))
      generalize s.ids.eraseIdx (s.ids.countP (· < (z : Int))) = l at hep hsub ⊢
      have hfp : (flatG M).Perm ((z : Int) :: flatG (M.set i ⟨l, false⟩)) := by
        rw [gk_set g1, flatG_app, flatG_cons]
        conv => lhs; rw [gk_split g1, flatG_app, flatG_cons]
        refine (List.Perm.append_left _ (hep.append_right _)).trans ?_
        rw [List.cons_append]
        exact List.perm_middle
      have hnc := hfp.nodup_iff.1 h.nd
      rw [List.nodup_cons] at hnc
      have hln := hfp.length_eq
      rw [List.length_cons] at hln
      have hso : l.Pairwise (· < ·) := (h.sort s hsm).sublist hsub
      refine h.set g1 (by omega) hso (fun x hx => h.rng s hsm x (hep.mem_iff.2 (List.mem_cons_of_mem _ hx))) hnc.2 (fun x hx => ?_) (of_out (fun u hu hm => hnc.1 (List.mem_flatMap.2 ⟨u, hu, hm⟩))) (by have := h.cnt; omega)
      rw [hep.mem_iff, List.mem_cons]
      exact ⟨.inr, fun e => e.resolve_left hx⟩
    · have := h.lens s hsm
      have := List.length_pos_of_mem hzs
      omega
end Go.Proofs.Ytlagogjnoibkcaa
