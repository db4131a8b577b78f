/- What the preflights' table holds: the plain law of ShareHolds. -/
import Derived.Test.YtkbjpackijdnkaaShPure
import Derived.Test.YtkbjpackijdnkaaLow
namespace Go.Proofs.Ytkbjpackijdnkaa
open Go.RowKit
set_option linter.unusedVariables false
set_option linter.unusedSimpArgs false

theorem join_last (M : List Sk) (last : Int) (x : Wt) (id : Int) : ((joinA M last x id).1.2.1 = true → (joinA M last x id).1.2.2 = 0 ∧ (joinA M last x id).1.1 = (joinA M last x id).2.1) ∧ ((joinA M last x id).1.2.1 = false → (joinA M last x id).2.1 = last) := by
  unfold joinA
  split
  · simp
  split
  · simp
  split
  · simp
  cases hf : M.findIdx? (wantIsA x) with
  | none => simp
  | some k =>
    cases hs : M[k]? with
    | none => simp [hs]
    | some s => simp [hs]

theorem hold_find (M : List Sk) (p : Int) : (∃ s ∈ M, s.num = p ∧ wantA M p = (s.want, true) ∧ memA M p = s.ids) ∨ ((∀ s ∈ M, s.num ≠ p) ∧ wantA M p = (noW, false) ∧ memA M p = []) := by
  unfold wantA memA
  cases hf : M.find? (numA p) with
  | some s =>
    left
    have h1 := List.find?_some hf
    exact ⟨s, List.mem_of_find?_eq_some hf, by simpa [numA] using h1, rfl, rfl⟩
  | none =>
    right
    refine ⟨fun s hs he => ?_, rfl, rfl⟩
    have := List.find?_eq_none.1 hf s hs
    simp [numA, he] at this

theorem hold_one {M : List Sk} : (idsA M).Nodup → ∀ {s t : Sk}, s ∈ M → t ∈ M → ∀ {x : Int}, x ∈ s.ids → x ∈ t.ids → s = t := by
  induction M with
  | nil => intro _ s t hs; simp at hs
  | cons y r ih =>
    intro h s t hs ht x hx hy
    rw [idsA_cons, List.nodup_append] at h
    obtain ⟨h1, h2, h3⟩ := h
    rcases List.mem_cons.1 hs with rfl | hs1 <;> rcases List.mem_cons.1 ht with rfl | ht1
    · rfl
    · exact absurd rfl (h3 x hx x (mem_idsA ht1 hy))
    · exact absurd rfl (h3 x hy x (mem_idsA hs1 hx))
    · exact ih h2 hs1 ht1 hx hy
theorem hold_of {i : Nat} {last : Int} {M : List Sk} (h : ShInv i last M) {s : Sk} (hs : s ∈ M) {x : Int} (hx : x ∈ s.ids) : ofA M x = s.num := by
  have hh : holdsA x s = true := by unfold holdsA hasI; rw [List.any_eq_true]; exact ⟨x, hx, by simp⟩
  unfold ofA
  cases hf : M.find? (holdsA x) with
  | none => exact absurd hh (by simpa using List.find?_eq_none.1 hf s hs)
  | some t =>
    have h1 := List.find?_some hf
    unfold holdsA hasI at h1
    rw [List.any_eq_true] at h1
    obtain ⟨y, hy, hy2⟩ := h1
    have : x = y := by simpa using hy2
    rw [← this] at hy
    rw [hold_one h.ids hs (List.mem_of_find?_eq_some hf) hx hy]; rfl
theorem map_one {α β : Type} (f : α → β) {M : List α} : (M.map f).Nodup → ∀ {s t : α}, s ∈ M → t ∈ M → f s = f t → s = t := by
  induction M with
  | nil => intro _ s t hs; simp at hs
  | cons y r ih =>
    intro h s t hs ht he
    rw [List.map_cons, List.nodup_cons] at h
    rcases List.mem_cons.1 hs with rfl | hs1 <;> rcases List.mem_cons.1 ht with rfl | ht1
    · rfl
    · exact absurd (List.mem_map.2 ⟨t, ht1, he.symm⟩) h.1
    · exact absurd (List.mem_map.2 ⟨s, hs1, he⟩) h.1
    · exact ih h.2 hs1 ht1 he
theorem hold_want {i : Nat} {last : Int} {M : List Sk} (h : ShInv i last M) {s t : Sk} (hs : s ∈ M) (ht : t ∈ M) (hn : s.num ≠ t.num) : sameW s.want t.want = false := by
  cases hq : sameW s.want t.want with
  | false => rfl
  | true =>
    have : s.want = t.want := by
      unfold sameW at hq
      simp only [Bool.and_eq_true, decide_eq_true_eq, beq_iff_eq] at hq
      obtain ⟨⟨⟨⟨h1, h2⟩, h3⟩, h4⟩, h5⟩ := hq
      cases hs1 : s.want; cases ht1 : t.want
      rw [hs1, ht1] at h1 h2 h3 h4 h5
      simp_all
    exact absurd (congrArg Sk.num (map_one Sk.want h.wants hs ht this)) hn

def cntB (M : List Sk) (p : Int) : Nat := (M.filter fun s => decide (s.num < p)).length
theorem cntB_none {M : List Sk} {p : Int} (h : ∀ s ∈ M, s.num ≠ p) : cntB M (p + 1) = cntB M p := by
  unfold cntB
  congr 1
  apply List.filter_congr
  intro s hs
  have := h s hs
  simp only [decide_eq_decide]
  omega
theorem cntB_some {M : List Sk} {p : Int} : (M.map Sk.num).Nodup → (∃ s ∈ M, s.num = p) → cntB M (p + 1) = cntB M p + 1 := by
  induction M with
  | nil => rintro _ ⟨s, hs, _⟩; simp at hs
  | cons y r ih =>
    rintro h ⟨s, hs, he⟩
    rw [List.map_cons, List.nodup_cons] at h
    unfold cntB at ih ⊢
    rw [List.filter_cons, List.filter_cons]
    by_cases hy : y.num = p
    · have hr := cntB_none (M := r) (p := p) (fun t ht e => h.1 (List.mem_map.2 ⟨t, ht, by rw [hy, e]⟩))
      unfold cntB at hr
      rw [if_pos (by simp; omega), if_neg (by simp; omega), List.length_cons, hr]
    · have hs' : s ∈ r := by
        rcases List.mem_cons.1 hs with rfl | hs
        · exact absurd he hy
        · exact hs
      have := ih h.2 ⟨s, hs', he⟩
      by_cases hl : y.num < p
      · rw [if_pos (by simp; omega), if_pos (by simp; omega), List.length_cons, List.length_cons, this]
      · rw [if_neg (by simp; omega), if_neg (by simp; omega), this]
theorem cntB_all {M : List Sk} {p : Int} (h : ∀ s ∈ M, s.num < p) : cntB M p = M.length := by
  unfold cntB
  rw [List.filter_eq_self.2 (fun s hs => by simpa using h s hs)]
theorem cntB_one {M : List Sk} (h : ∀ s ∈ M, 1 ≤ s.num) : cntB M 1 = 0 := by
  unfold cntB
  rw [List.filter_eq_nil_iff.2 (fun s hs => by have := h s hs; simp; omega)]
  rfl
theorem low4 (x : Int) (w : World) : Calls Try.prog 13 #[.int .i64 x, .int .i64 4] w fun e w' => ∃ q : Int, (0 ≤ q ∧ q < 4) ∧ e = .returned (.int .i64 q) ∧ w = w' :=
  (low_any x 4 (by omega) (by omega) w).mono fun _ _ ⟨h1, h2⟩ => ⟨_, lowI_bd x 4 (by omega), h1, h2⟩
theorem idx4 (q : Int) (h : 0 ≤ q ∧ q < 4) : ∃ key : ByteArray, ∀ w, Sem.run Try.prog (Instr.index 84 (.agg #[.string ⟨#[97]⟩, .string ⟨#[98]⟩, .string ⟨#[99]⟩, .string ⟨#[100]⟩]) (.int .i64 q)) w = .ok (.string key) w := by
  have hcs : q = 0 ∨ q = 1 ∨ q = 2 ∨ q = 3 := by omega
  rcases hcs with h | h | h | h <;> rw [h]
  · exact ⟨_, fun w => run_index_arr w _ _ 4 _ .i64 0 (.string ⟨#[97]⟩) Try.underlying84 Try.isAgg9 Try.sizeOf9 (by omega) (by omega) rfl⟩
  · exact ⟨_, fun w => run_index_arr w _ _ 4 _ .i64 1 (.string ⟨#[98]⟩) Try.underlying84 Try.isAgg9 Try.sizeOf9 (by omega) (by omega) rfl⟩
  · exact ⟨_, fun w => run_index_arr w _ _ 4 _ .i64 2 (.string ⟨#[99]⟩) Try.underlying84 Try.isAgg9 Try.sizeOf9 (by omega) (by omega) rfl⟩
  · exact ⟨_, fun w => run_index_arr w _ _ 4 _ .i64 3 (.string ⟨#[100]⟩) Try.underlying84 Try.isAgg9 Try.sizeOf9 (by omega) (by omega) rfl⟩
end Go.Proofs.Ytkbjpackijdnkaa
