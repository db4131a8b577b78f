/- The signals' tree: New, has, Len, Aborted, Under, by contract. -/
import Derived.Test.YtmmhpjodnceipaaSgLib
namespace Go.Proofs.Ytmmhpjodnceipaa
open Go.RowKit
set_option linter.unusedVariables false
set_option linter.unusedSimpArgs false

/-- A signal: its parents' row, its parents; is it aborted? -/
structure Sg where
  pa : Option Addr
  pc : Nat
  up : List Int
  off : Bool

def Sg.row (s : Sg) : Value := .slice s.pa s.up.length s.pc
def encG (s : Sg) : List Value := [s.row, .bool s.off]
theorem encG_ok : EncOk encG 2 := ⟨fun _ => rfl, fun o u hu => by simp [encG, Sg.row] at hu; rcases hu with rfl | rfl <;> rfl⟩
theorem tySg : ETy Try.prog 83 88 2 := ⟨by kernel_rfl, ⟨Try.t88, _, by kernel_rfl, by rfl, by rfl, by decide, by rfl⟩, by decide⟩

/-- The blocks of the parents' rows. -/
def upOwn (L : List Sg) : List Nat := L.flatMap fun s => s.row.ownBlock.toList

/-- The tree at b. -/
structure Tr (w : World) (b : Nat) (v : Value) (L : List Sg) : Prop where
  ob : Ob encG 2 88 (fun v => #[v]) 85 w b v L
  inn : ∀ s ∈ L, RI w s.row s.up

theorem mem_upOwn {L : List Sg} {s : Sg} (h : s ∈ L) {g : Nat} (hg : s.row.ownBlock = some g) : g ∈ upOwn L := List.mem_flatMap.2 ⟨s, h, by simp [hg]⟩

theorem Tr.keep {R : List Nat} {w w' : World} {b : Nat} {v : Value} {L : List Sg} (h : Tr w b v L) (he : Ext R w w') (hR : ∀ x ∈ (b :: v.ownBlock.toList) ++ upOwn L, x ∉ R) : Tr w' b v L :=
  ⟨h.ob.keep he (fun x hx => hR x (List.mem_append_left _ hx)), fun s hs => (h.inn s hs).keep he (fun g hg => hR g (List.mem_append_right _ (mem_upOwn hs hg)))⟩
theorem Tr.keep0 {w w' : World} {b : Nat} {v : Value} {L : List Sg} (h : Tr w b v L) (he : Ext [] w w') : Tr w' b v L := h.keep he (by simp)
theorem Tr.lt {w : World} {b : Nat} {v : Value} {L : List Sg} (h : Tr w b v L) : ∀ x ∈ (b :: v.ownBlock.toList) ++ upOwn L, x < w.heap.size := by
  intro x hx
  rcases List.mem_append.1 hx with hx | hx
  · exact h.ob.lt x hx
  · obtain ⟨s, hs, hg⟩ := List.mem_flatMap.1 hx
    exact (h.inn s hs).lt x (by simpa using hg)
/-- The parents' rows lie apart from the tree's own. -/
theorem Tr.apart {w : World} {b : Nat} {v : Value} {L : List Sg} (h : Tr w b v L) : ∀ x ∈ upOwn L, x ∉ b :: v.ownBlock.toList := by
  intro x hx hm
  obtain ⟨s, hs, hg⟩ := List.mem_flatMap.1 hx
  have hg : s.row.ownBlock = some x := by simpa using hg
  rcases List.mem_cons.1 hm with rfl | hm
  · exact (h.inn s hs).ne_blk h.ob.blk (by decide) hg
  · exact (h.inn s hs).apart h.ob.row (by decide) x hg (by simpa using hm)

/-- Is there a signal of this number? -/
def isS (n : Nat) (id : Int) : Bool := decide (1 ≤ id) && decide (id ≤ n)

set_option maxHeartbeats 800000 in
theorem sgHas_any (b : Nat) (v : Value) (L : List Sg) (id : Int) (hx : L.length < 1000000) (w : World) (h : Tr w b v L) :
    Calls Try.prog 46 #[.pointer (some ⟨b, 0, none⟩), .int .i64 id] w fun e w' => e = .returned (.bool (isS L.length id)) ∧ w = w' := by
  obtain ⟨a, cap, rfl⟩ := h.ob.row.val
  obtain ⟨n, hn⟩ : ∃ n, n = L.length := ⟨_, rfl⟩
  have hcv : w.cell? ⟨b, 0, none⟩ = some (.slice a L.length cap) := h.ob.blk.cell 0
  rw [← hn] at hcv ⊢
  clear h hx hn
  by_cases h1 : 1 ≤ id
  · by_cases h2 : id ≤ (n : Int)
    · have hr : isS n id = true := by unfold isS; simp [h1, h2]
      have HR := Lib.hid hr
      clear hr
      go_enter Try.func46, Try.ntmps46
      go_wp2_with fail
      go_ret
      exact ⟨ret_bool HR.out, rfl⟩
    · have hr : isS n id = false := by unfold isS; simp [h2]
      have HR := Lib.hid hr
      clear hr
      go_enter Try.func46, Try.ntmps46
      go_wp2_with fail
      go_ret
      exact ⟨ret_bool HR.out, rfl⟩
  · have hr : isS n id = false := by unfold isS; simp [h1]
    have HR := Lib.hid hr
    clear hr
    go_enter Try.func46, Try.ntmps46
    go_wp2_with fail
    go_ret
    exact ⟨ret_bool HR.out, rfl⟩

set_option maxHeartbeats 400000 in
theorem sgLen_any (b : Nat) (v : Value) (L : List Sg) (w : World) (h : Tr w b v L) :
    Calls Try.prog 19 #[.pointer (some ⟨b, 0, none⟩)] w fun e w' => e = .returned (.int .i64 L.length) ∧ w = w' := by
  obtain ⟨a, cap, rfl⟩ := h.ob.row.val
  have hcv : w.cell? ⟨b, 0, none⟩ = some (.slice a L.length cap) := h.ob.blk.cell 0
  clear h
  go_enter Try.func19, Try.ntmps19
  go_wp2_with fail
  go_ret
  exact ⟨rfl, rfl⟩

set_option maxHeartbeats 400000 in
theorem sgNew_any (w : World) : Calls Try.prog 22 #[] w fun e w' => e = .returned (.pointer (some ⟨w.heap.size, 0, none⟩)) ∧ Tr w' w.heap.size (.slice none 0 0) [] ∧ Ext [] w w' := by
  go_enter Try.func22, Try.ntmps22
  go_wp2_with fail
  go_ret
  exact ⟨rfl, ⟨⟨Blk.new _ _ _, Rw.nil _, by simp [Value.ownBlock]⟩, by simp⟩, (Ext.refl _ _).alloc _⟩

theorem isS_true {n : Nat} {id : Int} (h : isS n id = true) : ∃ i : Nat, id = (i : Int) + 1 ∧ i < n := by
  unfold isS at h
  simp at h
  exact ⟨(id - 1).toNat, by omega, by omega⟩
theorem isS_succ {n i : Nat} (h : i < n) : isS n ((i : Int) + 1) = true := by unfold isS; simp; omega

/-- Is it aborted? -/
def offM (L : List Sg) (id : Int) : Bool := isS L.length id && ((L[(id - 1).toNat]?.map Sg.off).getD false)
theorem offM_no {L : List Sg} {id : Int} (h : isS L.length id = false) : offM L id = false := by unfold offM; rw [h]; rfl
theorem offM_at {L : List Sg} {i : Nat} {s : Sg} (h : L[i]? = some s) : offM L ((i : Int) + 1) = s.off := by
  unfold offM
  rw [isS_succ (List.getElem?_eq_some_iff.1 h).1, show ((i : Int) + 1 - 1).toNat = i by omega, h]; rfl

set_option maxHeartbeats 800000 in
theorem sgAborted_any (b : Nat) (v : Value) (L : List Sg) (id : Int) (hx : L.length < 1000000) (w : World) (h : Tr w b v L) :
    Calls Try.prog 29 #[.pointer (some ⟨b, 0, none⟩), .int .i64 id] w fun e w' => e = .returned (.bool (offM L id)) ∧ w = w' := by
  have hhas := sgHas_any b v L id hx w h
  cases hq : isS L.length id with
  | false =>
    rw [hq] at hhas
    have HO := Lib.hid (offM_no hq)
    clear h hq
    go_enter Try.func29, Try.ntmps29
    go_wp2_with fail
    refine hhas.mono ?_
    rintro e w1 ⟨rfl, rfl⟩
    go_wp2_with fail
    go_ret
    exact ⟨ret_bool HO.out, rfl⟩
  | true =>
    rw [hq] at hhas
    obtain ⟨i, rfl, hi⟩ := isS_true hq
    obtain ⟨s, hs⟩ : ∃ s, L[i]? = some s := ⟨_, List.getElem?_eq_getElem hi⟩
    have HO := Lib.hid (offM_at hs)
    obtain ⟨a, cap, rfl⟩ := h.ob.row.val
    obtain ⟨n, hn⟩ : ∃ n, n = L.length := ⟨_, rfl⟩
    have hob := h.ob
    rw [← hn] at hob hi hx
    obtain ⟨g, rfl, hgl⟩ := hob.row.addr (by omega)
    have hcv : w.cell? ⟨b, 0, none⟩ = some (.slice (some ⟨g, 0, none⟩) n cap) := hob.blk.cell 0
    have hc1 := hob.row.cell encG_ok.len hs 1 (by omega)
    simp only [encG, Nat.add_zero, List.getElem?_cons_zero, List.getElem?_cons_succ] at hc1
    have b1 : (0 : Int) ≤ (i : Int) := by omega
    have b2 : (i : Int) < (n : Int) := by omega
    have hii : (i : Int) + 1 - 1 = i := by omega
    clear h hq hn hs hob
    go_enter Try.func29, Try.ntmps29
    go_wp2_with fail
    refine hhas.mono ?_
    rintro e w1 ⟨rfl, rfl⟩
    go_wp2_with fail
    go_ret
    exact ⟨ret_bool HO.out, rfl⟩
end Go.Proofs.Ytmmhpjodnceipaa
