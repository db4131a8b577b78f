/- The wheel as an object: what is armed, in any order. -/
import Derived.Test.YtlnablnnnnkeaaaCancel
import Derived.Test.YtlnablnnnnkeaaaHeap
namespace Go.Proofs.Ytlnablnnnnkeaaa
open Go.RowKit Go.Proofs.YtlnablnnnnkeaaaW.PrintLast
set_option linter.unusedVariables false
set_option linter.unusedSimpArgs false

/-- The wheel at b, whose own blocks are S, holds the timers L. -/
def WO (w : World) (b : Nat) (S : List Nat) (L : List One) (most last : Int) : Prop :=
  ∃ v xs, Wh w b v xs most last ∧ S = b :: v.ownBlock.toList ∧ Hp xs ∧ xs.Perm L

theorem WO.lt {w : World} {b : Nat} {S : List Nat} {L : List One} {most last : Int} (h : WO w b S L most last) : ∀ x ∈ S, x < w.heap.size := by
  obtain ⟨v, xs, hw, rfl, _, _⟩ := h
  intro x hx
  rcases List.mem_cons.1 hx with rfl | hx
  · exact hw.blk.lt
  · exact hw.row.lt x (by simpa using hx)

theorem WO.keep {w w' : World} {b : Nat} {S T : List Nat} {L : List One} {most last : Int} (h : WO w b S L most last) (he : Ext T w w') (hT : ∀ x ∈ S, x ∉ T) : WO w' b S L most last := by
  obtain ⟨v, xs, hw, rfl, hh, hp⟩ := h
  exact ⟨v, xs, hw.keep he (hT b (by simp)) (fun g hg => hT g (by simp [hg])), rfl, hh, hp⟩

theorem WO.perm {w : World} {b : Nat} {S : List Nat} {L M : List One} {most last : Int} (h : WO w b S L most last) (hp : L.Perm M) : WO w b S M most last := by
  obtain ⟨v, xs, hw, rfl, hh, hq⟩ := h
  exact ⟨v, xs, hw, rfl, hh, hq.trans hp⟩

theorem wo_new (m : Int) (w : World) :
    Calls Try.prog 9 #[.int .i64 m] w fun e w' => e = .returned (.pointer (some ⟨w.heap.size, 0, none⟩)) ∧ WO w' w.heap.size [w.heap.size] [] (clampM m) 0 ∧ Ext [] w w' := by
  refine (new_any m w).mono ?_
  rintro e w' ⟨he, hw, hx⟩
  exact ⟨he, ⟨_, [], hw, rfl, nil_heap, .refl _⟩, hx⟩

theorem wo_len (b : Nat) (S : List Nat) (L : List One) (most last : Int) (w : World) (h : WO w b S L most last) :
    Calls Try.prog 13 #[.pointer (some ⟨b, 0, none⟩)] w fun e w' => e = .returned (.int .i64 L.length) ∧ w = w' := by
  obtain ⟨v, xs, hw, rfl, hh, hp⟩ := h
  have := len_any b v xs most last w hw
  rwa [hp.length_eq] at this

theorem wo_arm (b : Nat) (S : List Nat) (L : List One) (most last : Int) (at_ tag : Int) (hx : L.length < 1000) (w : World) (h : WO w b S L most last) (hl0 : 0 ≤ last) (hl1 : last < 4000000000000000000) :
    Calls Try.prog 10 #[.pointer (some ⟨b, 0, none⟩), .int .u64 at_, .int .i64 tag] w fun e w' =>
      (most ≤ L.length ∧ e = .returned (.tuple #[.int .i64 0, .int .i64 10]) ∧ WO w' b S L most last ∧ Ext [] w w') ∨
      ((L.length : Int) < most ∧ e = .returned (.tuple #[.int .i64 (last + 1), .int .i64 0]) ∧
        ∃ S', WO w' b S' (⟨at_, last + 1, tag⟩ :: L) most (last + 1) ∧ Ext S w w' ∧ (∀ x ∈ S', x ∈ S ∨ w.heap.size ≤ x)) := by
  obtain ⟨v, xs, hw, rfl, hh, hp⟩ := h
  have hlen := hp.length_eq
  refine (arm_any b v xs most last at_ tag (by omega) w hw hl0 hl1).mono ?_
  rintro e w' (⟨h1, h2, h3, h4⟩ | ⟨h1, h2, g, cap, h3, h4, h5⟩)
  · exact .inl ⟨by omega, h2, ⟨v, xs, h3, rfl, hh, hp⟩, h4⟩
  · obtain ⟨k1, k2⟩ := arm_heap hh ⟨at_, last + 1, tag⟩
    refine .inr ⟨by omega, h2, _, ⟨_, _, h3, rfl, k1, k2.trans (hp.cons _)⟩, h4, ?_⟩
    intro x hx
    simp only [Value.ownBlock, Option.toList, List.mem_cons, List.mem_singleton, List.not_mem_nil, or_false] at hx
    rcases hx with rfl | rfl
    · exact .inl (by simp)
    · rcases h5 with h5 | h5
      · exact .inl (by simp [h5])
      · exact .inr h5

theorem wo_cancel (b : Nat) (S : List Nat) (L : List One) (most last id : Int) (hx : L.length < 1000) (w : World) (h : WO w b S L most last) :
    Calls Try.prog 17 #[.pointer (some ⟨b, 0, none⟩), .int .i64 id] w fun e w' =>
      ((∀ t ∈ L, t.id ≠ id) ∧ e = .returned (.bool false) ∧ WO w' b S L most last ∧ Ext [] w w') ∨
      (∃ t L', (t :: L').Perm L ∧ t.id = id ∧ e = .returned (.bool true) ∧ WO w' b S L' most last ∧ Ext S w w') := by
  obtain ⟨v, xs, hw, rfl, hh, hp⟩ := h
  have hlen := hp.length_eq
  refine (cancel_any b v xs most last id (by omega) w hw).mono ?_
  rintro e w' (⟨h1, h2, h3, h4⟩ | ⟨i, t, v', h1, h2, h3, h4, h5, h6⟩)
  · refine .inl ⟨?_, h2, ⟨v, xs, h3, rfl, hh, hp⟩, h4⟩
    intro t ht
    obtain ⟨j, hj, hjt⟩ := List.mem_iff_getElem.1 (hp.mem_iff.2 ht)
    exact h1 j t hj (by rw [List.getElem?_eq_getElem hj, hjt])
  · obtain ⟨k1, k2⟩ := cut_heap hh h1
    exact .inr ⟨t, cutF xs i, k2.trans hp, h2, h3, ⟨v', _, h4, by rw [h5], k1, .refl _⟩, h6⟩

theorem heap_mem {xs : List One} (h : Hp xs) {t : One} (ht : xs[0]? = some t) : ∀ x ∈ xs, leO t x := by
  intro x hx
  obtain ⟨j, hj, hjt⟩ := List.mem_iff_getElem.1 hx
  exact heap_least h ht j x (by rw [List.getElem?_eq_getElem hj, hjt])

theorem wo_due (b : Nat) (S : List Nat) (L : List One) (most last now : Int) (hx : L.length < 1000) (w : World) (h : WO w b S L most last) :
    Calls Try.prog 14 #[.pointer (some ⟨b, 0, none⟩), .int .u64 now] w fun e w' =>
      ((∀ t ∈ L, now < t.at_) ∧ e = .returned (.tuple #[.int .i64 0, .int .i64 0, .bool false]) ∧ WO w' b S L most last ∧ Ext [] w w') ∨
      (∃ t L', (t :: L').Perm L ∧ (∀ x ∈ L', leO t x) ∧ t.at_ ≤ now ∧ e = .returned (.tuple #[.int .i64 t.id, .int .i64 t.tag, .bool true]) ∧ WO w' b S L' most last ∧ Ext S w w') := by
  obtain ⟨v, xs, hw, rfl, hh, hp⟩ := h
  have hlen := hp.length_eq
  refine (due_any b v xs most last now (by omega) w hw).mono ?_
  rintro e w' (⟨h1, h2, h3, h4⟩ | ⟨t, v', h1, h2, h3, h4, h5, h6⟩)
  · refine .inl ⟨?_, h2, ⟨v, xs, h3, rfl, hh, hp⟩, h4⟩
    intro t ht
    have htx := hp.mem_iff.2 ht
    have hl : 0 < xs.length := by rcases xs with _ | _ <;> simp at *
    have hr := List.getElem?_eq_getElem hl
    have := heap_mem hh hr t htx
    rw [leO_iff] at this
    have := h1 _ hr
    omega
  · obtain ⟨k1, k2⟩ := cut_heap hh h1
    refine .inr ⟨t, cutF xs 0, k2.trans hp, ?_, h2, h3, ⟨v', _, h4, by rw [h5], k1, .refl _⟩, h6⟩
    intro x hx
    exact heap_mem hh h1 x (k2.mem_iff.1 (by simp [hx]))

theorem wo_next (b : Nat) (S : List Nat) (L : List One) (most last : Int) (w : World) (h : WO w b S L most last) :
    Calls Try.prog 15 #[.pointer (some ⟨b, 0, none⟩)] w fun e w' =>
      ((L = [] ∧ e = .returned (.tuple #[.int .u64 0, .bool false])) ∨ (∃ t, t ∈ L ∧ (∀ x ∈ L, leO t x) ∧ e = .returned (.tuple #[.int .u64 t.at_, .bool true]))) ∧ WO w' b S L most last ∧ Ext [] w w' := by
  obtain ⟨v, xs, hw, rfl, hh, hp⟩ := h
  refine (next_any b v xs most last w hw).mono ?_
  rintro e w' ⟨h1, h3, h4⟩
  refine ⟨?_, ⟨v, xs, h3, rfl, hh, hp⟩, h4⟩
  rcases xs with _ | ⟨t, xs⟩
  · exact .inl ⟨by simpa using hp, h1⟩
  · refine .inr ⟨t, hp.mem_iff.1 (by simp), ?_, h1⟩
    intro x hx
    exact heap_mem hh (t := t) rfl x (hp.mem_iff.2 hx)
end Go.Proofs.Ytlnablnnnnkeaaa
