/- The document's signals as an object: told by each signal's parents and whether it is aborted. -/
import Derived.Test.YtmmhpjodnceipaaRefAbort
namespace Go.Proofs.Ytmmhpjodnceipaa
open Go.RowKit
set_option linter.unusedVariables false
set_option linter.unusedSimpArgs false

def RS (w : World) (b : Nat) (S : List Nat) (M : List Sm) : Prop := ∃ v L, TrR w b v L ∧ S = (b :: v.ownBlock.toList) ++ upOwn L ∧ absL L = M

theorem RS.keep {R S : List Nat} {w w' : World} {b : Nat} {M : List Sm} (h : RS w b S M) (he : Ext R w w') (hR : ∀ x ∈ S, x ∉ R) : RS w' b S M := by
  obtain ⟨v, L, h, rfl, hm⟩ := h
  exact ⟨v, L, h.keep he hR, rfl, hm⟩
theorem RS.keep0 {S : List Nat} {w w' : World} {b : Nat} {M : List Sm} (h : RS w b S M) (he : Ext [] w w') : RS w' b S M := h.keep he (by simp)
theorem RS.lt {S : List Nat} {w : World} {b : Nat} {M : List Sm} (h : RS w b S M) : ∀ x ∈ S, x < w.heap.size := by
  obtain ⟨v, L, h, rfl, hm⟩ := h
  exact h.lt

/-- Each parent is a number of a signal; none has very many. -/
def UpIn (M : List Sm) : Prop := ∀ s ∈ M, s.up.length < 100000 ∧ ∀ z ∈ s.up, ∃ q : Nat, z = (q : Int) ∧ q ≤ M.length
theorem UpIn.ok {M : List Sm} (h : UpIn M) : UpOk M := fun s hs => (h s hs).1
theorem UpIn.L {L : List Sg} (h : UpIn (absL L)) : ∀ s ∈ L, s.up.length < 100000 ∧ ∀ z ∈ s.up, ∃ q : Nat, z = (q : Int) ∧ q ≤ L.length := fun s hs => by
  have := h s.abs (List.mem_map.2 ⟨s, hs, rfl⟩)
  rw [absL_len] at this
  exact this
theorem UpIn.nil : UpIn [] := fun s hs => by simp at hs
theorem mkES_in {M : List Sm} : ∀ {ps : List Int}, mkES M ps = 0 → ∀ z ∈ ps, isS M.length z = true
  | [], _, z, hz => by simp at hz
  | p :: r, h, z, hz => by
    rw [mkES] at h
    cases hp : isS M.length p with
    | false => rw [hp] at h; simp at h
    | true =>
      rw [hp] at h
      simp only [Bool.true_eq_false, if_false] at h
      cases ho : offS M p with
      | true => rw [ho] at h; simp at h
      | false =>
        rw [ho] at h
        simp only [Bool.false_eq_true, if_false] at h
        rcases List.mem_cons.1 hz with rfl | hz
        · exact hp
        · exact mkES_in h z hz
theorem UpIn.mk {M : List Sm} (h : UpIn M) {ps : List Int} (hp : ps.length < 100000) : UpIn (mkL M ps) := by
  unfold mkL
  split
  · rename_i h0
    intro s hs
    rcases List.mem_append.1 hs with hs | hs
    · refine ⟨(h s hs).1, fun z hz => ?_⟩
      obtain ⟨q, h1, h2⟩ := (h s hs).2 z hz
      exact ⟨q, h1, by simp; omega⟩
    · have hs : s = ⟨ps, false⟩ := by simpa using hs
      subst hs
      refine ⟨hp, fun z hz => ?_⟩
      unfold mkS at h0
      split at h0
      · simp at h0
      · obtain ⟨i, h1, h2⟩ := isS_true (mkES_in h0 z hz)
        exact ⟨i + 1, by rw [h1]; simp, by simp; omega⟩
  · exact h
theorem abRS_up : ∀ (us : List Int) (M : List Sm), (abRS M us).1.map Sm.up = M.map Sm.up
  | [], M => rfl
  | k :: r, M => by
    rw [abRS]
    cases hq : M[(k - 1).toNat]? with
    | none => exact abRS_up r M
    | some s =>
      cases ho : s.off with
      | true => simp only [ho]; exact abRS_up r M
      | false =>
        simp only [ho]
        have := abRS_up r (M.set (k - 1).toNat ⟨s.up, true⟩)
        simp only [Bool.false_eq_true, if_false]
        rw [this, List.map_set]
        refine List.ext_getElem? fun j => ?_
        rw [List.getElem?_set]
        split
        · subst_vars
          rw [List.length_map]
          split
          · rw [List.getElem?_map, hq]; rfl
          · rename_i hlt
            exact absurd (List.getElem?_eq_some_iff.1 hq).1 hlt
        · rfl
theorem abS_up (M : List Sm) (id : Int) : (abS M id).2.2.map Sm.up = M.map Sm.up := by
  unfold abS
  split
  · rfl
  · split
    · rfl
    · exact abRS_up _ _
theorem abS_len (M : List Sm) (id : Int) : (abS M id).2.2.length = M.length := by
  have := congrArg List.length (abS_up M id)
  simpa using this
theorem UpIn.ab {M : List Sm} (h : UpIn M) (id : Int) : UpIn (abS M id).2.2 := by
  intro s hs
  have h1 : s.up ∈ M.map Sm.up := by rw [← abS_up M id]; exact List.mem_map.2 ⟨s, hs, rfl⟩
  obtain ⟨t, ht, he⟩ := List.mem_map.1 h1
  rw [← he, abS_len]
  exact h t ht
theorem mkL_len (M : List Sm) (ps : List Int) : (mkL M ps).length ≤ M.length + 1 := by unfold mkL; split <;> simp
theorem undS_len (M : List Sm) (id : Int) : (undS M id).length ≤ M.length + 1 := by
  unfold undS
  split
  · have := undN_len (M.map Sm.up) (id - 1).toNat (M.length - id.toNat); omega
  · simp
theorem abRS_len : ∀ (us : List Int) (M : List Sm), (abRS M us).2.length ≤ us.length
  | [], M => Nat.le_refl _
  | k :: r, M => by
    rw [abRS]
    cases hq : M[(k - 1).toNat]? with
    | none => exact Nat.le_trans (abRS_len r M) (by simp)
    | some s =>
      cases ho : s.off with
      | true => simp only [ho]; exact Nat.le_trans (abRS_len r M) (by simp)
      | false =>
        simp only [ho, Bool.false_eq_true, if_false, List.length_cons]
        have := abRS_len r (M.set (k - 1).toNat ⟨s.up, true⟩)
        omega
theorem abS_told (M : List Sm) (id : Int) : (abS M id).2.1.length ≤ M.length + 1 := by
  unfold abS
  split
  · simp
  · split
    · simp
    · exact Nat.le_trans (abRS_len _ _) (undS_len M id)

theorem rs_new (w : World) : Calls Try.prog 25 #[] w fun e w' => e = .returned (.pointer (some ⟨w.heap.size, 0, none⟩)) ∧ RS w' w.heap.size [w.heap.size] [] ∧ Ext [] w w' :=
  (rsgNew_any w).mono fun _ _ ⟨h1, h2, h3⟩ => ⟨h1, ⟨_, [], h2, rfl, rfl⟩, h3⟩
theorem rs_aborted (b : Nat) (S : List Nat) (M : List Sm) (id : Int) (hx : M.length < 1000000) (w : World) (h : RS w b S M) :
    Calls Try.prog 30 #[.pointer (some ⟨b, 0, none⟩), .int .i64 id] w fun e w' => e = .returned (.bool (offS M id)) ∧ w = w' := by
  obtain ⟨v, L, h, rfl, rfl⟩ := h
  rw [absL_len] at hx
  rw [← off_abs]; exact rsgAborted_any b v L id hx w h
theorem rs_under (b : Nat) (S : List Nat) (M : List Sm) (id : Int) (hx : M.length < 1000) (hu : UpIn M) (w : World) (h : RS w b S M) :
    Calls Try.prog 31 #[.pointer (some ⟨b, 0, none⟩), .int .i64 id] w (NewI (undS M id) w) := by
  obtain ⟨v, L, h, rfl, rfl⟩ := h
  rw [absL_len] at hx
  rw [← und_abs]; exact rsgUnder_any b v L id (by omega) hu.L w h
theorem rs_make (b : Nat) (S : List Nat) (M : List Sm) (sv : Value) (ps : List Int) (hx : M.length < 100000) (hp : ps.length < 100000) (w : World) (h : RS w b S M) (hs : SrcI w sv ps) :
    Calls Try.prog 28 #[.pointer (some ⟨b, 0, none⟩), sv] w fun e w' =>
      e = .returned (.tuple #[.int .i64 (if mkS M ps = 0 then (M.length : Int) + 1 else 0), .int .i64 (mkS M ps)]) ∧ Chg (fun w' S' => RS w' b S' (mkL M ps)) S w w' := by
  obtain ⟨v, L, h, rfl, rfl⟩ := h
  rw [absL_len] at hx ⊢
  rw [← mk_abs]
  refine (rsgMake_any b v L sv ps hx hp w h hs).mono ?_
  rintro e w' (⟨h1, h2, h3, h4⟩ | ⟨h1, h2, v', pa, pc, h3, h4, h5⟩)
  · rw [if_neg h1]
    refine ⟨h2, _, ⟨v, L, h3, rfl, ?_⟩, h4.mono (by simp), fun x hx => .inl hx⟩
    unfold mkL; rw [← mk_abs, if_neg h1]
  · rw [if_pos h1, h1]
    refine ⟨h2, _, ⟨v', _, h3, rfl, ?_⟩, h4.mono (fun x hx => .inl (List.mem_append_left _ hx)), h5⟩
    unfold mkL; rw [← mk_abs, if_pos h1]; unfold absL; rw [List.map_append]; rfl
/-- What an abort tells, behind it. -/
def RAbP (b : Nat) (S : List Nat) (M : List Sm) (id : Int) (w : World) (e : Ending) (w' : World) : Prop :=
  ∃ (a : Option Addr) (c : Nat), e = .returned (.tuple #[.slice a (abS M id).2.1.length c, .int .i64 (abS M id).1]) ∧ RI w' (.slice a (abS M id).2.1.length c) (abS M id).2.1 ∧ (∀ g, (Value.slice a (abS M id).2.1.length c).ownBlock = some g → w.heap.size ≤ g) ∧
    RS w' b S (abS M id).2.2 ∧ Ext S w w'
theorem rs_abort (b : Nat) (S : List Nat) (M : List Sm) (id : Int) (hx : M.length < 1000) (hu : UpIn M) (w : World) (h : RS w b S M) :
    Calls Try.prog 26 #[.pointer (some ⟨b, 0, none⟩), .int .i64 id] w (RAbP b S M id w) := by
  obtain ⟨v, L, h, rfl, rfl⟩ := h
  rw [absL_len] at hx
  refine (rsgAbort_any b v L id hx hu.L w h).mono ?_
  rintro e w' ⟨a, c, h1, h2, h3, h4, h5, h6⟩
  obtain ⟨k1, k2, k3⟩ := ab_abs L id
  rw [k1, k2] at h1
  rw [k2] at h2 h3
  exact ⟨a, c, h1, h2, h3, ⟨v, _, h4, by rw [h5], k3⟩, h6.mono (fun x hx => .inl (List.mem_append_left _ hx))⟩
/-- The count of the signals, as it stands in the object. -/
theorem RS.row {w : World} {b : Nat} {S : List Nat} {M : List Sm} (h : RS w b S M) : ∃ a c, w.cell? ⟨b, 0, none⟩ = some (.slice a M.length c) := by
  obtain ⟨v, L, h, rfl, rfl⟩ := h
  obtain ⟨a, c, rfl⟩ := h.ob.row.val
  rw [absL_len]
  exact ⟨a, c, h.ob.blk.cell 0⟩
end Go.Proofs.Ytmmhpjodnceipaa
