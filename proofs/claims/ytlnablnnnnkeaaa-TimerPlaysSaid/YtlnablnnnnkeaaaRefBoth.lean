/- Both wheels, which hold the same, tell the same. -/
import Derived.Test.YtlnablnnnnkeaaaRefDue
namespace Go.Proofs.Ytlnablnnnnkeaaa
open Go.RowKit
set_option linter.unusedVariables false
set_option linter.unusedSimpArgs false

structure TInv (i : Nat) (last : Int) (xs : List One) : Prop where
  len : xs.length ≤ i
  l0 : 0 ≤ last
  li : last ≤ i
  rng : ∀ x ∈ xs, x.id ≤ last
  nd : (xs.map One.id).Nodup
theorem TInv.nil : TInv 0 0 [] := ⟨by simp, by omega, by omega, by simp, by simp⟩
theorem TInv.up {i : Nat} {last : Int} {xs : List One} (h : TInv i last xs) : TInv (i + 1) last xs := ⟨Nat.le_succ_of_le h.len, h.l0, by have := h.li; omega, h.rng, h.nd⟩
theorem TInv.un {i : Nat} {last : Int} {xs : List One} (h : TInv i last xs) : UnI xs := by
  intro p q x y hx hy e
  obtain ⟨hp, rfl⟩ := List.getElem?_eq_some_iff.1 hx
  obtain ⟨hq, rfl⟩ := List.getElem?_eq_some_iff.1 hy
  have hn := h.nd
  rw [List.Nodup, List.pairwise_map, List.pairwise_iff_getElem] at hn
  rcases Nat.lt_trichotomy p q with h1 | h1 | h1
  · exact absurd e (hn p q hp hq h1)
  · exact h1
  · exact absurd e.symm (hn q p hq hp h1)
theorem TInv.same {i : Nat} {last : Int} {xs : List One} (h : TInv i last xs) {x y : One} (hx : x ∈ xs) (hy : y ∈ xs) (e : x.id = y.id) : x = y := by
  obtain ⟨p, hp⟩ := List.mem_iff_getElem?.1 hx
  obtain ⟨q, hq⟩ := List.mem_iff_getElem?.1 hy
  have := h.un p q x y hp hq e
  subst this
  rw [hp] at hq
  injection hq
theorem TInv.arm {i : Nat} {last : Int} {xs : List One} (h : TInv i last xs) (at_ tag : Int) : TInv (i + 1) (last + 1) (xs ++ [⟨at_, last + 1, tag⟩]) := by
  refine ⟨by rw [List.length_append]; simpa using h.len, by have := h.l0; omega, by have := h.li; omega, fun x hx => ?_, ?_⟩
  · rcases List.mem_append.1 hx with hx | hx
    · have := h.rng x hx; omega
    · simp at hx; subst hx; exact Int.le_refl _
  · rw [List.map_append, List.nodup_append]
    refine ⟨h.nd, by simp, fun a ha b hb e => ?_⟩
    simp at hb
    obtain ⟨x, hx, rfl⟩ := List.mem_map.1 ha
    have := h.rng x hx
    omega
theorem TInv.cut {i : Nat} {last : Int} {xs : List One} (h : TInv i last xs) (k : Nat) : TInv i last (xs.eraseIdx k) :=
  ⟨Nat.le_trans (List.eraseIdx_sublist xs k).length_le h.len, h.l0, h.li, fun x hx => h.rng x (List.mem_of_mem_eraseIdx hx), h.nd.sublist ((List.eraseIdx_sublist xs k).map _)⟩
theorem cut_perm {xs : List One} {k : Nat} {t : One} (h : xs[k]? = some t) : (t :: xs.eraseIdx k).Perm xs := by
  obtain ⟨hi, hv⟩ := List.getElem?_eq_some_iff.1 h
  rw [List.eraseIdx_eq_take_drop_succ]
  conv => rhs; rw [← List.take_append_drop k xs, List.drop_eq_getElem_cons hi, hv]
  exact List.perm_middle.symm
theorem WO.keep0 {w w' : World} {b : Nat} {S : List Nat} {L : List One} {most last : Int} (h : WO w b S L most last) (he : Ext [] w w') : WO w' b S L most last := h.keep he (by simp)


theorem arm_both {i : Nat} {last : Int} {xs : List One} (h : TInv i last xs) (hi : i < 900) (most at_ tag : Int) (b r : Nat) (S R : List Nat) :
    ∃ (a c : Int) (ys : List One) (last' : Int), (∀ w, WO w b S xs most last → Calls Try.prog 10 #[.pointer (some ⟨b, 0, none⟩), .int .u64 at_, .int .i64 tag] w fun e w' => e = .returned (.tuple #[.int .i64 a, .int .i64 c]) ∧ Chg (fun w' S' => WO w' b S' ys most last') S w w') ∧
      (∀ w, RO w r R xs most last → Calls Try.prog 19 #[.pointer (some ⟨r, 0, none⟩), .int .u64 at_, .int .i64 tag] w fun e w' => e = .returned (.tuple #[.int .i64 a, .int .i64 c]) ∧ Chg (fun w' S' => RO w' r S' ys most last') R w w') ∧ TInv (i + 1) last' ys := by
  have hlen := h.len; have hl0 := h.l0; have hli := h.li
  by_cases hm : most ≤ xs.length
  · refine ⟨0, 10, xs, last, fun w hw => ?_, fun w hw => ?_, h.up⟩
    · refine (wo_arm b S xs most last at_ tag (by omega) w hw hl0 (by omega)).mono ?_
      rintro e w' (⟨h1, h2, h3, h4⟩ | ⟨h1, h2, S', h3, h4, h5⟩)
      · exact ⟨h2, S, h3, h4.mono (by simp), fun x hx => .inl hx⟩
      · omega
    · refine (ro_arm r R xs most last at_ tag (by omega) w hw hl0 (by omega)).mono ?_
      rintro e w' (⟨h1, h2, h3, h4⟩ | ⟨h1, h2, S', h3, h4, h5⟩)
      · exact ⟨h2, R, h3, h4.mono (by simp), fun x hx => .inl hx⟩
      · omega
  · refine ⟨last + 1, 0, xs ++ [⟨at_, last + 1, tag⟩], last + 1, fun w hw => ?_, fun w hw => ?_, h.arm at_ tag⟩
    · refine (wo_arm b S xs most last at_ tag (by omega) w hw hl0 (by omega)).mono ?_
      rintro e w' (⟨h1, h2, h3, h4⟩ | ⟨h1, h2, S', h3, h4, h5⟩)
      · omega
      · exact ⟨h2, S', h3.perm (List.perm_append_singleton _ _).symm, h4, h5⟩
    · refine (ro_arm r R xs most last at_ tag (by omega) w hw hl0 (by omega)).mono ?_
      rintro e w' (⟨h1, h2, h3, h4⟩ | ⟨h1, h2, S', h3, h4, h5⟩)
      · omega
      · exact ⟨h2, S', h3, h4, h5⟩

theorem cancel_both {i : Nat} {last : Int} {xs : List One} (h : TInv i last xs) (hi : i < 900) (most id : Int) (b r : Nat) (S R : List Nat) :
    ∃ (c : Bool) (ys : List One), (∀ w, WO w b S xs most last → Calls Try.prog 17 #[.pointer (some ⟨b, 0, none⟩), .int .i64 id] w fun e w' => e = .returned (.bool c) ∧ Chg (fun w' S' => WO w' b S' ys most last) S w w') ∧
      (∀ w, RO w r R xs most last → Calls Try.prog 20 #[.pointer (some ⟨r, 0, none⟩), .int .i64 id] w fun e w' => e = .returned (.bool c) ∧ Chg (fun w' S' => RO w' r S' ys most last) R w w') ∧ TInv (i + 1) last ys := by
  have hlen := h.len
  by_cases hm : ∃ (k : Nat) (t : One), xs[k]? = some t ∧ t.id = id
  · obtain ⟨k, t, hk, ht⟩ := hm
    refine ⟨true, xs.eraseIdx k, fun w hw => ?_, fun w hw => ?_, (h.cut k).up⟩
    · refine (wo_cancel b S xs most last id (by omega) w hw).mono ?_
      rintro e w' (⟨h1, h2, h3, h4⟩ | ⟨t2, L', h1, h2, h3, h4, h5⟩)
      · exact absurd ht (h1 t (List.mem_of_getElem? hk))
      · have : t2 = t := h.same (h1.mem_iff.1 (by simp)) (List.mem_of_getElem? hk) (by omega)
        subst this
        exact ⟨h3, S, h4.perm ((List.perm_cons _).1 (h1.trans (cut_perm hk).symm)), h5, fun x hx => .inl hx⟩
    · refine (ro_cancel r R xs most last id (by omega) w hw).mono ?_
      rintro e w' (⟨h1, h2, rfl⟩ | ⟨k2, t2, h1, h2, h3, S', h4, h5, h6⟩)
      · exact absurd ht (h1 t (List.mem_of_getElem? hk))
      · have : k2 = k := h.un k2 k t2 t h1 hk (by omega)
        subst this
        exact ⟨h3, S', h4, h5, h6⟩
  · refine ⟨false, xs, fun w hw => ?_, fun w hw => ?_, h.up⟩
    · refine (wo_cancel b S xs most last id (by omega) w hw).mono ?_
      rintro e w' (⟨h1, h2, h3, h4⟩ | ⟨t2, L', h1, h2, h3, h4, h5⟩)
      · exact ⟨h2, S, h3, h4.mono (by simp), fun x hx => .inl hx⟩
      · obtain ⟨k, hk⟩ := List.mem_iff_getElem?.1 (h1.mem_iff.1 (List.mem_cons_self))
        exact absurd ⟨k, t2, hk, h2⟩ hm
    · refine (ro_cancel r R xs most last id (by omega) w hw).mono ?_
      rintro e w' (⟨h1, h2, rfl⟩ | ⟨k2, t2, h1, h2, h3, S', h4, h5, h6⟩)
      · exact ⟨h2, R, hw, Ext.refl _ _, fun x hx => .inl hx⟩
      · exact absurd ⟨k2, t2, h1, h2⟩ hm

theorem due_both {i : Nat} {last : Int} {xs : List One} (h : TInv i last xs) (hi : i < 900) (most now : Int) (b r : Nat) (S R : List Nat) :
    ∃ (a c : Int) (o : Bool) (ys : List One), (∀ w, WO w b S xs most last → Calls Try.prog 14 #[.pointer (some ⟨b, 0, none⟩), .int .u64 now] w fun e w' => e = .returned (.tuple #[.int .i64 a, .int .i64 c, .bool o]) ∧ Chg (fun w' S' => WO w' b S' ys most last) S w w') ∧
      (∀ w, RO w r R xs most last → Calls Try.prog 21 #[.pointer (some ⟨r, 0, none⟩), .int .u64 now] w fun e w' => e = .returned (.tuple #[.int .i64 a, .int .i64 c, .bool o]) ∧ Chg (fun w' S' => RO w' r S' ys most last) R w w') ∧ TInv (i + 1) last ys := by
  have hlen := h.len
  by_cases hm : ∃ (k : Nat) (t : One), xs[k]? = some t ∧ t.at_ ≤ now ∧ ∀ x ∈ xs, leO t x
  · obtain ⟨k, t, hk, ht, hle⟩ := hm
    have hkm := List.mem_of_getElem? hk
    have key : ∀ t2 ∈ xs, leO t2 t → t2 = t := fun t2 hm2 hl => by
      have h1 := hle t2 hm2
      rw [leO_iff] at h1 hl
      exact h.same hm2 hkm (by omega)
    refine ⟨t.id, t.tag, true, xs.eraseIdx k, fun w hw => ?_, fun w hw => ?_, (h.cut k).up⟩
    · refine (wo_due b S xs most last now (by omega) w hw).mono ?_
      rintro e w' (⟨h1, h2, h3, h4⟩ | ⟨t2, L', h1, h2, h3, h4, h5, h6⟩)
      · have := h1 t hkm; omega
      · have hm2 : t2 ∈ xs := h1.mem_iff.1 (by simp)
        have : t2 = t := key t2 hm2 (by
          rcases List.mem_cons.1 (h1.mem_iff.2 hkm) with e | hm
          · rw [e]; exact leO_refl _
          · exact h2 t hm)
        subst this
        exact ⟨h4, S, h5.perm ((List.perm_cons _).1 (h1.trans (cut_perm hk).symm)), h6, fun x hx => .inl hx⟩
    · refine (ro_due r R xs most last now (by omega) h.un w hw).mono ?_
      rintro e w' (⟨h1, h2, h3⟩ | ⟨k2, t2, h1, h2, h3, h4, S', h5, h6, h7⟩)
      · have := h1 t hkm; omega
      · have : t2 = t := key t2 (List.mem_of_getElem? h1) (h2 t hkm)
        subst this
        have : k2 = k := h.un k2 k t2 t2 h1 hk rfl
        subst this
        exact ⟨h4, S', h5, h6, h7⟩
  · refine ⟨0, 0, false, xs, fun w hw => ?_, fun w hw => ?_, h.up⟩
    · refine (wo_due b S xs most last now (by omega) w hw).mono ?_
      rintro e w' (⟨h1, h2, h3, h4⟩ | ⟨t2, L', h1, h2, h3, h4, h5, h6⟩)
      · exact ⟨h2, S, h3, h4.mono (by simp), fun x hx => .inl hx⟩
      · obtain ⟨k, hk⟩ := List.mem_iff_getElem?.1 (h1.mem_iff.1 (List.mem_cons_self))
        refine absurd ⟨k, t2, hk, h3, fun x hx => ?_⟩ hm
        rcases List.mem_cons.1 (h1.mem_iff.2 hx) with e | hm
        · rw [e]; exact leO_refl _
        · exact h2 x hm
    · refine (ro_due r R xs most last now (by omega) h.un w hw).mono ?_
      rintro e w' (⟨h1, h2, h3⟩ | ⟨k2, t2, h1, h2, h3, h4, S', h5, h6, h7⟩)
      · exact ⟨h2, R, hw.keep0 h3, h3.mono (by simp), fun x hx => .inl hx⟩
      · exact absurd ⟨k2, t2, h1, h3, h2⟩ hm

theorem next_both {i : Nat} {last : Int} {xs : List One} (h : TInv i last xs) (hi : i < 900) (most : Int) (b r : Nat) (S R : List Nat) :
    ∃ (a : Int) (o : Bool), (∀ w, WO w b S xs most last → Calls Try.prog 15 #[.pointer (some ⟨b, 0, none⟩)] w fun e w' => e = .returned (.tuple #[.int .u64 a, .bool o]) ∧ Ext [] w w') ∧
      (∀ w, RO w r R xs most last → Calls Try.prog 22 #[.pointer (some ⟨r, 0, none⟩)] w fun e w' => e = .returned (.tuple #[.int .u64 a, .bool o]) ∧ Ext [] w w') := by
  have hlen := h.len
  by_cases hm : ∃ t : One, t ∈ xs ∧ ∀ x ∈ xs, leO t x
  · obtain ⟨t, ht, hle⟩ := hm
    have key : ∀ t2 ∈ xs, (∀ x ∈ xs, leO t2 x) → t2.at_ = t.at_ := fun t2 hm2 hl => by
      have h1 := hle t2 hm2; have h2 := hl t ht
      rw [leO_iff] at h1 h2
      omega
    refine ⟨t.at_, true, fun w hw => ?_, fun w hw => ?_⟩
    · refine (wo_next b S xs most last w hw).mono ?_
      rintro e w' ⟨⟨h1, h2⟩ | ⟨t2, h1, h2, h3⟩, h4, h5⟩
      · rw [h1] at ht; simp at ht
      · exact ⟨by rw [h3, key t2 h1 h2], h5⟩
    · refine (ro_next r R xs most last (by omega) w hw).mono ?_
      rintro e w' ⟨⟨h1, h2⟩ | ⟨t2, h1, h2, h3⟩, h5⟩
      · rw [h1] at ht; simp at ht
      · exact ⟨by rw [h3, key t2 h1 h2], h5⟩
  · refine ⟨0, false, fun w hw => ?_, fun w hw => ?_⟩
    · refine (wo_next b S xs most last w hw).mono ?_
      rintro e w' ⟨⟨h1, h2⟩ | ⟨t2, h1, h2, h3⟩, h4, h5⟩
      · exact ⟨h2, h5⟩
      · exact absurd ⟨t2, h1, h2⟩ hm
    · refine (ro_next r R xs most last (by omega) w hw).mono ?_
      rintro e w' ⟨⟨h1, h2⟩ | ⟨t2, h1, h2, h3⟩, h5⟩
      · exact ⟨h2, h5⟩
      · exact absurd ⟨t2, h1, h2⟩ hm
end Go.Proofs.Ytlnablnnnnkeaaa
