/- The preflights' table: one row of members is changed, one preflight goes, one comes. -/
import Derived.Test.YtkbjpackijdnkaaShare
import Derived.Test.YtkbjpackijdnkaaIntDel
namespace Go.Proofs.Ytkbjpackijdnkaa
open Go.RowKit
set_option linter.unusedVariables false
set_option linter.unusedSimpArgs false

theorem mOwn_append (A B : List Sh) : mOwn (A ++ B) = mOwn A ++ mOwn B := by unfold mOwn; rw [List.flatMap_append]
theorem mOwn_cons (s : Sh) (B : List Sh) : mOwn (s :: B) = s.row.ownBlock.toList ++ mOwn B := rfl
theorem split_at {L : List Sh} {i : Nat} {s : Sh} (h : L[i]? = some s) : L = L.take i ++ s :: L.drop (i + 1) := by
  have hi := (List.getElem?_eq_some_iff.1 h).1
  have hv := (List.getElem?_eq_some_iff.1 h).2
  rw [← hv, ← List.drop_eq_getElem_cons hi, List.take_append_drop]
theorem set_at {L : List Sh} {i : Nat} (h : i < L.length) (s' : Sh) : L.set i s' = L.take i ++ s' :: L.drop (i + 1) := by
  rw [List.set_eq_take_append_cons_drop, if_pos h]
theorem nodup_mid {A B : List Nat} {o o' : Option Nat} (h : (A ++ (o.toList ++ B)).Nodup) (ho : ∀ x, o' = some x → o = some x ∨ (x ∉ A ∧ x ∉ B)) : (A ++ (o'.toList ++ B)).Nodup := by
  rw [List.nodup_append, List.nodup_append] at h ⊢
  obtain ⟨hA, ⟨h1, hB, h2⟩, h3⟩ := h
  cases o' with
  | none => exact ⟨hA, ⟨by simp, hB, by simp⟩, fun a ha b hb => h3 a ha b (by simp at hb; simp [hb])⟩
  | some x =>
    rcases ho x rfl with rfl | ⟨h4, h5⟩
    · exact ⟨hA, ⟨h1, hB, h2⟩, h3⟩
    · refine ⟨hA, ⟨by simp, hB, ?_⟩, ?_⟩
      · intro a ha b hb e
        simp at ha; subst ha; subst e; exact h5 hb
      · intro a ha b hb e
        subst e
        simp at hb
        rcases hb with rfl | hb
        · exact h4 ha
        · exact h3 a ha a (by simp [hb]) rfl
theorem dis_ne {L : List Sh} (h : (mOwn L).Nodup) {i j : Nat} {s t : Sh} (hs : L[i]? = some s) (ht : L[j]? = some t) (hij : i ≠ j) {x : Nat} (hx : s.row.ownBlock = some x) : t.row.ownBlock ≠ some x := by
  intro hy
  have hL := split_at hs
  rw [hL, mOwn_append, mOwn_cons, List.nodup_append, List.nodup_append] at h
  obtain ⟨hA, ⟨h1, hB, h2⟩, h3⟩ := h
  rw [hx] at h2 h3
  have hi := (List.getElem?_eq_some_iff.1 hs).1
  rcases Nat.lt_or_ge j i with hj | hj
  · have : t ∈ L.take i := by
      rw [List.mem_iff_getElem?]
      exact ⟨j, by rw [List.getElem?_take, if_pos hj]; exact ht⟩
    exact h3 x (mem_mOwn this hy) x (by simp) rfl
  · have : t ∈ L.drop (i + 1) := by
      rw [List.mem_iff_getElem?]
      exact ⟨j - (i + 1), by rw [List.getElem?_drop, show i + 1 + (j - (i + 1)) = j by omega]; exact ht⟩
    exact h2 x (by simp) x (mem_mOwn this hy) rfl

/-- A row of members is changed, and its value stored. -/
theorem ShT.set_row {w w1 : World} {b g n cap i : Nat} {last : Int} {L : List Sh} {s : Sh} (h : ShT w b (.slice (some ⟨g, 0, none⟩) n cap) last L) (hs : L[i]? = some s) (a' : Option Addr) (c' : Nat) (ids' : List Int)
    (he : Ext s.row.ownBlock.toList w w1) (hr : RI w1 (.slice a' ids'.length c') ids') (hg : ∀ x, (Value.slice a' ids'.length c').ownBlock = some x → s.row.ownBlock = some x ∨ w.heap.size ≤ x) :
    ShT (w1.setCell ⟨g, i * 7 + 6, none⟩ (.slice a' ids'.length c')) b (.slice (some ⟨g, 0, none⟩) n cap) last (L.set i ⟨s.num, s.want, a', c', ids'⟩) ∧
    Ext ((b :: [g]) ++ mOwn L) w (w1.setCell ⟨g, i * 7 + 6, none⟩ (.slice a' ids'.length c')) ∧ (∀ x ∈ mOwn (L.set i ⟨s.num, s.want, a', c', ids'⟩), x ∈ mOwn L ∨ w.heap.size ≤ x) := by
  have hsm : s ∈ L := List.mem_of_getElem? hs
  have hil := (List.getElem?_eq_some_iff.1 hs).1
  have hap : ∀ x, s.row.ownBlock = some x → x ∉ [b, g] := fun x hx hm => h.apart x (mem_mOwn hsm hx) (by simpa [Value.ownBlock] using hm)
  have hlt := h.ob.lt
  have hob1 : Ob encSh 7 105 (fun v => #[v, .int .i64 last]) 102 w1 b (.slice (some ⟨g, 0, none⟩) n cap) L := h.ob.keep he (fun x hx hm => hap x (by simpa using hm) (by simpa [Value.ownBlock] using hx))
  have e2 : Ext [g] w1 (w1.setCell ⟨g, i * 7 + 6, none⟩ (.slice a' ids'.length c')) := (Ext.refl _ _).setCell (Or.inl (by simp)) _
  have hnew : ∀ x, (Value.slice a' ids'.length c').ownBlock = some x → x ≠ g ∧ x ≠ b := fun x hx => by
    rcases hg x hx with h1 | h1
    · have := hap x h1; simp at this; exact ⟨this.2, this.1⟩
    · have h2 := hlt g (by simp [Value.ownBlock]); have h3 := hlt b (by simp); exact ⟨by omega, by omega⟩
  have hmo : ∀ x ∈ mOwn (L.set i ⟨s.num, s.want, a', c', ids'⟩), x ∈ mOwn L ∨ w.heap.size ≤ x := by
    intro x hx
    obtain ⟨t, ht, hxt⟩ := List.mem_flatMap.1 hx
    have hxt : t.row.ownBlock = some x := by simpa using hxt
    rcases List.mem_or_eq_of_mem_set ht with ht | rfl
    · exact .inl (mem_mOwn ht hxt)
    · rcases hg x hxt with h1 | h1
      · exact .inl (mem_mOwn hsm h1)
      · exact .inr h1
  refine ⟨⟨⟨hob1.blk_at rfl e2, ?_, h.ob.ne⟩, ?_, ?_⟩, ?_, hmo⟩
  · exact hob1.row.put1 encSh_ok.len (by omega) hs _ ⟨s.num, s.want, a', c', ids'⟩ rfl
  · intro t ht
    obtain ⟨j, hj⟩ := List.mem_iff_getElem?.1 ht
    rw [List.getElem?_set] at hj
    by_cases hij : i = j
    · rw [if_pos hij, if_pos hil] at hj
      injection hj with hj
      subst hj
      exact hr.keep e2 (fun x hx hm => (hnew x hx).1 (by simpa using hm))
    · rw [if_neg hij] at hj
      have htm := List.mem_of_getElem? hj
      refine ((h.inn t htm).keep he (fun x hx hm => ?_)).keep e2 (fun x hx hm => ?_)
      · have hm : s.row.ownBlock = some x := by simpa using hm
        exact dis_ne h.dis hs hj hij hm hx
      · have := h.apart x (mem_mOwn htm hx)
        simp [Value.ownBlock] at this hm
        exact this.2 hm
  · have hd := h.dis
    rw [split_at hs, mOwn_append, mOwn_cons] at hd
    rw [set_at hil, mOwn_append, mOwn_cons]
    refine nodup_mid hd (fun x hx => ?_)
    rcases hg x hx with h1 | h1
    · exact .inl h1
    · right
      have hl2 := fun y hy => h.lt y (List.mem_append_right _ hy)
      constructor
      · intro hm
        have := hl2 x (by rw [split_at hs, mOwn_append]; exact List.mem_append_left _ hm); omega
      · intro hm
        have := hl2 x (by rw [split_at hs, mOwn_append, mOwn_cons]; exact List.mem_append_right _ (List.mem_append_right _ hm)); omega
  · exact (he.mono (fun x hx => .inl (List.mem_append_right _ (mem_mOwn hsm (by simpa using hx))))).setCell (Or.inl (by simp)) _

/-- A preflight goes. -/
theorem mOwn_erase (L : List Sh) (i : Nat) : (mOwn (L.eraseIdx i)).Sublist (mOwn L) := by
  induction L generalizing i with
  | nil => simp [mOwn]
  | cons s r ih =>
    cases i with
    | zero => rw [List.eraseIdx_cons_zero, mOwn_cons]; exact List.sublist_append_right _ _
    | succ i => rw [List.eraseIdx_cons_succ, mOwn_cons, mOwn_cons]; exact (List.Sublist.refl _).append (ih i)
theorem ShT.erased {w w2 : World} {b g n cap i : Nat} {last : Int} {L : List Sh} (h : ShT w b (.slice (some ⟨g, 0, none⟩) n cap) last L) (hr : Rw encSh 7 105 w2 (.slice (some ⟨g, 0, none⟩) (n - 1) cap) (L.eraseIdx i)) (he : Ext [g] w w2) :
    ShT (w2.setCell ⟨b, 0, none⟩ (.slice (some ⟨g, 0, none⟩) (n - 1) cap)) b (.slice (some ⟨g, 0, none⟩) (n - 1) cap) last (L.eraseIdx i) ∧ Ext (b :: [g]) w (w2.setCell ⟨b, 0, none⟩ (.slice (some ⟨g, 0, none⟩) (n - 1) cap)) := by
  obtain ⟨h1, h2⟩ := h.ob.changed (v' := .slice (some ⟨g, 0, none⟩) (n - 1) cap) rfl rfl hr he 0 (by simp)
  refine ⟨⟨h1, fun s hs => ?_, h.dis.sublist (mOwn_erase L i)⟩, h2⟩
  have hsm := List.mem_of_mem_eraseIdx hs
  exact (h.inn s hsm).keep h2 (fun x hx hm => h.apart x (mem_mOwn hsm hx) (by simpa [Value.ownBlock] using hm))
end Go.Proofs.Ytkbjpackijdnkaa
