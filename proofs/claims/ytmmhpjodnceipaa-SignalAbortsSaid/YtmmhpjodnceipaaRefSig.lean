/- The document's signals: New, is, Aborted, by contract. -/
import Derived.Test.YtmmhpjodnceipaaSgAwake
namespace Go.Proofs.Ytmmhpjodnceipaa
open Go.RowKit
set_option linter.unusedVariables false
set_option linter.unusedSimpArgs false

theorem rtySg : ETy Try.prog 54 92 2 := ⟨by kernel_rfl, ⟨Try.t92, _, by kernel_rfl, by rfl, by rfl, by decide, by rfl⟩, by decide⟩

/-- The tree at b. -/
structure TrR (w : World) (b : Nat) (v : Value) (L : List Sg) : Prop where
  ob : Ob encG 2 92 (fun v => #[v]) 56 w b v L
  inn : ∀ s ∈ L, RI w s.row s.up

theorem TrR.keep {R : List Nat} {w w' : World} {b : Nat} {v : Value} {L : List Sg} (h : TrR w b v L) (he : Ext R w w') (hR : ∀ x ∈ (b :: v.ownBlock.toList) ++ upOwn L, x ∉ R) : TrR w' b v L :=
  ⟨h.ob.keep he (fun x hx => hR x (List.mem_append_left _ hx)), fun s hs => (h.inn s hs).keep he (fun g hg => hR g (List.mem_append_right _ (mem_upOwn hs hg)))⟩
theorem TrR.keep0 {w w' : World} {b : Nat} {v : Value} {L : List Sg} (h : TrR w b v L) (he : Ext [] w w') : TrR w' b v L := h.keep he (by simp)
theorem TrR.lt {w : World} {b : Nat} {v : Value} {L : List Sg} (h : TrR w b v L) : ∀ x ∈ (b :: v.ownBlock.toList) ++ upOwn L, x < w.heap.size := by
  intro x hx
  rcases List.mem_append.1 hx with hx | hx
  · exact h.ob.lt x hx
  · obtain ⟨s, hs, hg⟩ := List.mem_flatMap.1 hx
    exact (h.inn s hs).lt x (by simpa using hg)
/-- The parents' rows lie apart from the tree's own. -/
theorem TrR.apart {w : World} {b : Nat} {v : Value} {L : List Sg} (h : TrR w b v L) : ∀ x ∈ upOwn L, x ∉ b :: v.ownBlock.toList := by
  intro x hx hm
  obtain ⟨s, hs, hg⟩ := List.mem_flatMap.1 hx
  have hg : s.row.ownBlock = some x := by simpa using hg
  rcases List.mem_cons.1 hm with rfl | hm
  · exact (h.inn s hs).ne_blk h.ob.blk (by decide) hg
  · exact (h.inn s hs).apart h.ob.row (by decide) x hg (by simpa using hm)

set_option maxHeartbeats 800000 in
theorem rsgHas_any (b : Nat) (v : Value) (L : List Sg) (id : Int) (hx : L.length < 1000000) (w : World) (h : TrR w b v L) :
    Calls Try.prog 50 #[.pointer (some ⟨b, 0, none⟩), .int .i64 id] w fun e w' => e = .returned (.bool (isS L.length id)) ∧ w = w' := by
  obtain ⟨a, cap, rfl⟩ := h.ob.row.val
  obtain ⟨n, hn⟩ : ∃ n, n = L.length := ⟨_, rfl⟩
  have hcv : w.cell? ⟨b, 0, none⟩ = some (.slice a L.length cap) := h.ob.blk.cell 0
  rw [← hn] at hcv ⊢
  clear h hx hn
  by_cases h1 : 1 ≤ id
  · by_cases h2 : id ≤ (n : Int)
    · have hr : isS n id = true := by unfold isS; simp [h1, h2]
      have HR := Lib.hid hr
      clear hr
      go_enter Try.func50, Try.ntmps50
      go_wp2_with fail
      go_ret
      exact ⟨ret_bool HR.out, rfl⟩
    · have hr : isS n id = false := by unfold isS; simp [h2]
      have HR := Lib.hid hr
      clear hr
      go_enter Try.func50, Try.ntmps50
      go_wp2_with fail
      go_ret
      exact ⟨ret_bool HR.out, rfl⟩
  · have hr : isS n id = false := by unfold isS; simp [h1]
    have HR := Lib.hid hr
    clear hr
    go_enter Try.func50, Try.ntmps50
    go_wp2_with fail
    go_ret
    exact ⟨ret_bool HR.out, rfl⟩

set_option maxHeartbeats 400000 in
theorem rsgNew_any (w : World) : Calls Try.prog 25 #[] w fun e w' => e = .returned (.pointer (some ⟨w.heap.size, 0, none⟩)) ∧ TrR w' w.heap.size (.slice none 0 0) [] ∧ Ext [] w w' := by
  go_enter Try.func25, Try.ntmps25
  go_wp2_with fail
  go_ret
  exact ⟨rfl, ⟨⟨Blk.new _ _ _, Rw.nil _, by simp [Value.ownBlock]⟩, by simp⟩, (Ext.refl _ _).alloc _⟩

set_option maxHeartbeats 800000 in
theorem rsgAborted_any (b : Nat) (v : Value) (L : List Sg) (id : Int) (hx : L.length < 1000000) (w : World) (h : TrR w b v L) :
    Calls Try.prog 30 #[.pointer (some ⟨b, 0, none⟩), .int .i64 id] w fun e w' => e = .returned (.bool (offM L id)) ∧ w = w' := by
  have hhas := rsgHas_any b v L id hx w h
  cases hq : isS L.length id with
  | false =>
    rw [hq] at hhas
    have HO := Lib.hid (offM_no hq)
    clear h hq
    go_enter Try.func30, Try.ntmps30
    go_wp2_with fail
    refine hhas.mono ?_
    rintro e w1 ⟨rfl, rfl⟩
    go_wp2_with fail
    go_ret
    exact ⟨ret_bool HO.out, rfl⟩
  | true =>
    rw [hq] at hhas
    obtain ⟨i, rfl, hi⟩ := isS_true hq
    obtain ⟨s, hs⟩ : ∃ s, L[i]? = some s := ⟨_, List.getElem?_eq_getElem hi⟩
    have HO := Lib.hid (offM_at hs)
    obtain ⟨a, cap, rfl⟩ := h.ob.row.val
    obtain ⟨n, hn⟩ : ∃ n, n = L.length := ⟨_, rfl⟩
    have hob := h.ob
    rw [← hn] at hob hi hx
    obtain ⟨g, rfl, hgl⟩ := hob.row.addr (by omega)
    have hcv : w.cell? ⟨b, 0, none⟩ = some (.slice (some ⟨g, 0, none⟩) n cap) := hob.blk.cell 0
    have hc1 := hob.row.cell encG_ok.len hs 1 (by omega)
    simp only [encG, Nat.add_zero, List.getElem?_cons_zero, List.getElem?_cons_succ] at hc1
    have b1 : (0 : Int) ≤ (i : Int) := by omega
    have b2 : (i : Int) < (n : Int) := by omega
    have hii : (i : Int) + 1 - 1 = i := by omega
    clear h hq hn hs hob
    go_enter Try.func30, Try.ntmps30
    go_wp2_with fail
    refine hhas.mono ?_
    rintro e w1 ⟨rfl, rfl⟩
    go_wp2_with fail
    go_ret
    exact ⟨ret_bool HO.out, rfl⟩
end Go.Proofs.Ytmmhpjodnceipaa
