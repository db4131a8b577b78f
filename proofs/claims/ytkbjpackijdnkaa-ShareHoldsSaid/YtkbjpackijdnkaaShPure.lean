/- The preflights' table keeps its order: the plain law. -/
import Derived.Test.YtkbjpackijdnkaaShJoin
import Derived.Test.YtkbjpackijdnkaaShMembers
namespace Go.Proofs.Ytkbjpackijdnkaa
open Go.RowKit
set_option linter.unusedVariables false
set_option linter.unusedSimpArgs false

def idsA (M : List Sk) : List Int := M.flatMap Sk.ids
structure ShInv (i : Nat) (last : Int) (M : List Sk) : Prop where
  last0 : 0 ≤ last
  lasti : last ≤ i
  len : M.length ≤ i
  nums : (M.map Sk.num).Nodup
  wants : (M.map Sk.want).Nodup
  ids : (idsA M).Nodup
  each : ∀ s ∈ M, 1 ≤ s.num ∧ s.num ≤ last ∧ s.ids ≠ [] ∧ s.ids.length ≤ i

theorem ShInv.nil : ShInv 0 0 [] := ⟨by omega, by omega, by simp, by simp, by simp, by simp [idsA], fun s hs => by simp at hs⟩
theorem ShInv.next {i : Nat} {last : Int} {M : List Sk} (h : ShInv i last M) : ShInv (i + 1) last M :=
  ⟨h.last0, by have := h.lasti; omega, by have := h.len; omega, h.nums, h.wants, h.ids, fun s hs => by obtain ⟨h1, h2, h3, h4⟩ := h.each s hs; exact ⟨h1, h2, h3, by omega⟩⟩
theorem ShInv.ok {i : Nat} {last : Int} {M : List Sk} (h : ShInv i last M) (hi : i < 100000) : MemOk M := fun s hs => by have := (h.each s hs).2.2.2; omega
theorem sk_split {M : List Sk} {i : Nat} {s : Sk} (h : M[i]? = some s) : M = M.take i ++ s :: M.drop (i + 1) := by
  have hi := (List.getElem?_eq_some_iff.1 h).1
  have hv := (List.getElem?_eq_some_iff.1 h).2
  rw [← hv, ← List.drop_eq_getElem_cons hi, List.take_append_drop]
theorem sk_set {M : List Sk} {i : Nat} {s : Sk} (h : M[i]? = some s) (t : Sk) : M.set i t = M.take i ++ t :: M.drop (i + 1) := by
  rw [List.set_eq_take_append_cons_drop, if_pos (List.getElem?_eq_some_iff.1 h).1]
theorem idsA_app (A B : List Sk) : idsA (A ++ B) = idsA A ++ idsA B := by unfold idsA; rw [List.flatMap_append]
theorem idsA_cons (s : Sk) (B : List Sk) : idsA (s :: B) = s.ids ++ idsA B := rfl
theorem mem_idsA {M : List Sk} {s : Sk} (h : s ∈ M) {x : Int} (hx : x ∈ s.ids) : x ∈ idsA M := List.mem_flatMap.2 ⟨s, h, hx⟩
theorem ids_each {M : List Sk} (h : (idsA M).Nodup) {s : Sk} (hs : s ∈ M) : s.ids.Nodup := by
  obtain ⟨i, hi⟩ := List.mem_iff_getElem?.1 hs
  rw [sk_split hi, idsA_app, idsA_cons, List.nodup_append, List.nodup_append] at h
  exact h.2.1.1
theorem erase_split {M : List Sk} {i : Nat} {s : Sk} (h : M[i]? = some s) : M.eraseIdx i = M.take i ++ M.drop (i + 1) := List.eraseIdx_eq_take_drop_succ ..

theorem idsA_erase (M : List Sk) (k : Nat) : (idsA (M.eraseIdx k)).Sublist (idsA M) := by
  induction M generalizing k with
  | nil => simp [idsA]
  | cons s r ih =>
    cases k with
    | zero => rw [List.eraseIdx_cons_zero, idsA_cons]; exact List.sublist_append_right _ _
    | succ k => rw [List.eraseIdx_cons_succ, idsA_cons, idsA_cons]; exact (List.Sublist.refl _).append (ih k)
/-- One goes. -/
theorem ShInv.erase {i : Nat} {last : Int} {M : List Sk} (h : ShInv i last M) (k : Nat) : ShInv (i + 1) last (M.eraseIdx k) := by
  have hsub := List.eraseIdx_sublist M k
  refine ⟨h.last0, by have := h.lasti; omega, by have := hsub.length_le; have := h.len; omega, h.nums.sublist (hsub.map _), h.wants.sublist (hsub.map _), ?_, fun s hs => ?_⟩
  · exact h.ids.sublist (idsA_erase M k)
  · obtain ⟨h1, h2, h3, h4⟩ := h.each s (hsub.subset hs)
    exact ⟨h1, h2, h3, by omega⟩

/-- The members of one are others. -/
theorem ShInv.set {i : Nat} {last : Int} {M : List Sk} (h : ShInv i last M) {k : Nat} {s : Sk} (hs : M[k]? = some s) {l : List Int} (hn : l ≠ []) (hl : l.length ≤ i + 1) (hd : (idsA (M.take k) ++ (l ++ idsA (M.drop (k + 1)))).Nodup) : ShInv (i + 1) last (M.set k ⟨s.num, s.want, l⟩) := by
  have hsp := sk_split hs
  have hst := sk_set hs ⟨s.num, s.want, l⟩
  have e1 : (M.set k ⟨s.num, s.want, l⟩).map Sk.num = M.map Sk.num := by
    rw [hst]
    conv => rhs; rw [hsp]
    simp
  have e2 : (M.set k ⟨s.num, s.want, l⟩).map Sk.want = M.map Sk.want := by
    rw [hst]
    conv => rhs; rw [hsp]
    simp
  refine ⟨h.last0, by have := h.lasti; omega, by rw [List.length_set]; have := h.len; omega, by rw [e1]; exact h.nums, by rw [e2]; exact h.wants, by rw [hst, idsA_app, idsA_cons]; exact hd, fun t ht => ?_⟩
  rcases List.mem_or_eq_of_mem_set ht with ht | rfl
  · obtain ⟨h1, h2, h3, h4⟩ := h.each t ht
    exact ⟨h1, h2, h3, by omega⟩
  · obtain ⟨h1, h2, h3, h4⟩ := h.each s (List.mem_of_getElem? hs)
    exact ⟨h1, h2, hn, hl⟩

theorem not_in {M : List Sk} {id : Int} (h : M.any (holdsA id) = false) : id ∉ idsA M := by
  intro hm
  obtain ⟨s, hs, hx⟩ := List.mem_flatMap.1 hm
  rw [List.any_eq_false] at h
  exact h s hs (by unfold holdsA hasI; rw [List.any_eq_true]; exact ⟨id, hx, by simp⟩)

theorem ShInv.join {i : Nat} {last : Int} {M : List Sk} (h : ShInv i last M) (x : Wt) (id : Int) : ShInv (i + 1) (joinA M last x id).2.1 (joinA M last x id).2.2 := by
  unfold joinA
  split
  · exact h.next
  split
  · exact h.next
  split
  · exact h.next
  rename_i h1 h2 h3
  have hni := not_in (by simpa using h2 : M.any (holdsA id) = false)
  cases hf : M.findIdx? (wantIsA x) with
  | some k =>
    obtain ⟨hk, hp, -⟩ := List.findIdx?_eq_some_iff_getElem.1 hf
    have hs : M[k]? = some M[k] := List.getElem?_eq_getElem hk
    simp only [hs]
    refine h.set hs (by simp) (by rw [List.length_append]; have := (h.each _ (List.getElem_mem hk)).2.2.2; simp; omega) ?_
    have hd := h.ids
    rw [sk_split hs, idsA_app, idsA_cons] at hd
    rw [sk_split hs, idsA_app, idsA_cons] at hni
    generalize idsA (M.take k) = A at hd hni ⊢
    generalize idsA (M.drop (k + 1)) = B at hd hni ⊢
    generalize (M[k]).ids = C at hd hni ⊢
    simp only [List.mem_append, not_or] at hni
    rw [List.nodup_append, List.nodup_append] at hd ⊢
    obtain ⟨d1, ⟨d2, d3, d4⟩, d5⟩ := hd
    refine ⟨d1, ⟨?_, d3, ?_⟩, ?_⟩
    · rw [List.nodup_append]
      exact ⟨d2, by simp, fun a ha b hb => by simp at hb; subst hb; exact fun e => hni.2.1 (e ▸ ha)⟩
    · intro a ha b hb
      rcases List.mem_append.1 ha with ha | ha
      · exact d4 a ha b hb
      · simp at ha; subst ha; exact fun e => hni.2.2 (e ▸ hb)
    · intro a ha b hb
      rcases List.mem_append.1 hb with hb | hb
      · rcases List.mem_append.1 hb with hb | hb
        · exact d5 a ha b (List.mem_append_left _ hb)
        · simp at hb; subst hb; exact fun e => hni.1 (e ▸ ha)
      · exact d5 a ha b (List.mem_append_right _ hb)
  | none =>
    simp only
    have hw : x ∉ M.map Sk.want := by
      intro hm
      obtain ⟨s, hs, rfl⟩ := List.mem_map.1 hm
      have := List.findIdx?_eq_none_iff.1 hf s hs
      simp [wantIsA, sameW] at this
    have hnm : last + 1 ∉ M.map Sk.num := by
      intro hm
      obtain ⟨s, hs, he⟩ := List.mem_map.1 hm
      have := (h.each s hs).2.1
      omega
    have nd1 : ∀ {α : Type} (l : List α) (z : α), l.Nodup → z ∉ l → (l ++ [z]).Nodup := fun l z hl hz => by
      rw [List.nodup_append]
      exact ⟨hl, by simp, fun a ha b hb => by simp at hb; subst hb; exact fun e => hz (e ▸ ha)⟩
    refine ⟨by have := h.last0; omega, by have := h.lasti; omega, by rw [List.length_append]; have := h.len; simp; omega, ?_, ?_, ?_, fun s hs => ?_⟩
    · rw [List.map_append]; exact nd1 _ _ h.nums hnm
    · rw [List.map_append]; exact nd1 _ _ h.wants hw
    · rw [idsA_app]; exact nd1 _ _ h.ids hni
    · rcases List.mem_append.1 hs with hs | hs
      · obtain ⟨h1, h2, h3, h4⟩ := h.each s hs
        exact ⟨h1, by omega, h3, by omega⟩
      · simp at hs; subst hs
        have := h.last0
        exact ⟨by simp only; omega, by simp, by simp, by simp⟩

theorem ShInv.leave {i : Nat} {last : Int} {M : List Sk} (h : ShInv i last M) (id : Int) : ShInv (i + 1) last (leaveA M id).2 := by
  unfold leaveA
  cases hf : M.findIdx? (holdsA id) with
  | none => exact h.next
  | some k =>
    obtain ⟨hk, hp, -⟩ := List.findIdx?_eq_some_iff_getElem.1 hf
    have hs : M[k]? = some M[k] := List.getElem?_eq_getElem hk
    simp only [hs]
    split
    · rw [List.eraseIdx_set_eq]
      exact h.erase k
    · rename_i hne
      refine h.set hs (fun e => hne (by rw [e]; rfl)) (by have h1 := (h.each _ (List.getElem_mem hk)).2.2.2; have h2 := List.length_filter_le (fun x => !(x == id)) (M[k]).ids; omega) ?_
      have hd := h.ids
      rw [sk_split hs, idsA_app, idsA_cons] at hd
      exact hd.sublist ((List.Sublist.refl _).append ((List.filter_sublist).append (List.Sublist.refl _)))
theorem ShInv.done {i : Nat} {last : Int} {M : List Sk} (h : ShInv i last M) (pre : Int) : ShInv (i + 1) last (doneA M pre).2 := by
  unfold doneA
  cases hf : M.findIdx? (numA pre) with
  | none => exact h.next
  | some k => exact h.erase k
theorem doneA_len {M : List Sk} (pre : Int) {N : Nat} (h : ∀ s ∈ M, s.ids.length ≤ N) : (doneA M pre).1.length ≤ N := by
  unfold doneA
  cases hf : M.findIdx? (numA pre) with
  | none => simp
  | some k =>
    cases hs : M[k]? with
    | none => simp [hs]
    | some s => simp only [hs, Option.map_some, Option.getD_some]; exact h s (List.mem_of_getElem? hs)
theorem memA_len {M : List Sk} (pre : Int) {N : Nat} (h : ∀ s ∈ M, s.ids.length ≤ N) : (memA M pre).length ≤ N := by
  unfold memA
  cases hf : M.find? (numA pre) with
  | none => simp
  | some s => simp only [Option.map_some, Option.getD_some]; exact h s (List.mem_of_find?_eq_some hf)
theorem ShInv.lens {i : Nat} {last : Int} {M : List Sk} (h : ShInv i last M) : ∀ s ∈ M, s.ids.length ≤ i := fun s hs => (h.each s hs).2.2.2
end Go.Proofs.Ytkbjpackijdnkaa
