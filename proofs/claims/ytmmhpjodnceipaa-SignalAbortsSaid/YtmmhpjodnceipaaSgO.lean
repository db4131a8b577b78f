/- The signals' tree as an object: told by each signal's parents and whether it is aborted. -/
import Derived.Test.YtmmhpjodnceipaaSgAbort
import Derived.Test.YtmmhpjodnceipaaIntsAny
namespace Go.Proofs.Ytmmhpjodnceipaa
open Go.RowKit
set_option linter.unusedVariables false
set_option linter.unusedSimpArgs false

/-- A signal: its parents; is it aborted? -/
structure Sm where
  up : List Int
  off : Bool

def Sg.abs (s : Sg) : Sm := ⟨s.up, s.off⟩
def absL (L : List Sg) : List Sm := L.map Sg.abs

def SO (w : World) (b : Nat) (S : List Nat) (M : List Sm) : Prop := ∃ v L, Tr w b v L ∧ S = (b :: v.ownBlock.toList) ++ upOwn L ∧ absL L = M

theorem SO.keep {R S : List Nat} {w w' : World} {b : Nat} {M : List Sm} (h : SO w b S M) (he : Ext R w w') (hR : ∀ x ∈ S, x ∉ R) : SO w' b S M := by
  obtain ⟨v, L, h, rfl, hm⟩ := h
  exact ⟨v, L, h.keep he hR, rfl, hm⟩
theorem SO.keep0 {S : List Nat} {w w' : World} {b : Nat} {M : List Sm} (h : SO w b S M) (he : Ext [] w w') : SO w' b S M := h.keep he (by simp)
theorem SO.lt {S : List Nat} {w : World} {b : Nat} {M : List Sm} (h : SO w b S M) : ∀ x ∈ S, x < w.heap.size := by
  obtain ⟨v, L, h, rfl, hm⟩ := h
  exact h.lt

def offS (M : List Sm) (id : Int) : Bool := isS M.length id && ((M[(id - 1).toNat]?.map Sm.off).getD false)
def undS (M : List Sm) (id : Int) : List Int := if isS M.length id then undN (M.map Sm.up) (id - 1).toNat (M.length - id.toNat) else []
def mkES (M : List Sm) : List Int → Int
  | [] => 0
  | p :: r => if isS M.length p = false then 11 else if offS M p then 13 else mkES M r
def mkS (M : List Sm) (ps : List Int) : Int := if 64 ≤ M.length then 10 else mkES M ps
def abRS : List Sm → List Int → List Sm × List Int
  | M, [] => (M, [])
  | M, k :: r => match M[(k - 1).toNat]? with
    | some s => if s.off then abRS M r else ((abRS (M.set (k - 1).toNat ⟨s.up, true⟩) r).1, k :: (abRS (M.set (k - 1).toNat ⟨s.up, true⟩) r).2)
    | none => abRS M r
def abS (M : List Sm) (id : Int) : Int × List Int × List Sm :=
  if isS M.length id = false then (11, [], M) else if offS M id = true then (13, [], M) else (0, (abRS M (undS M id)).2, (abRS M (undS M id)).1)

theorem absL_len (L : List Sg) : (absL L).length = L.length := by simp [absL]
theorem off_abs (L : List Sg) (id : Int) : offM L id = offS (absL L) id := by
  unfold offM offS; rw [absL_len]; unfold absL; rw [List.getElem?_map, Option.map_map]; rfl
theorem und_abs (L : List Sg) (id : Int) : undL L id = undS (absL L) id := by
  unfold undL undS; rw [absL_len]; unfold absL ups; rw [List.map_map]; rfl
theorem mkE_abs (L : List Sg) : ∀ ps, mkE L ps = mkES (absL L) ps
  | [] => rfl
  | p :: r => by rw [mkE, mkES, absL_len, off_abs, mkE_abs L r]
theorem mk_abs (L : List Sg) (ps : List Int) : mkC L ps = mkS (absL L) ps := by unfold mkC mkS; rw [absL_len, mkE_abs]
theorem abR_abs : ∀ (us : List Int) (L : List Sg), absL (abR L us).1 = (abRS (absL L) us).1 ∧ (abR L us).2 = (abRS (absL L) us).2
  | [], L => ⟨rfl, rfl⟩
  | k :: r, L => by
    rw [abR, abRS]
    have hg : (absL L)[(k - 1).toNat]? = L[(k - 1).toNat]?.map Sg.abs := by unfold absL; rw [List.getElem?_map]
    rw [hg]
    cases hq : L[(k - 1).toNat]? with
    | none => exact abR_abs r L
    | some s =>
      simp only [Option.map_some]
      have ho : s.abs.off = s.off := rfl
      rw [ho]
      cases s.off with
      | true => exact abR_abs r L
      | false =>
        have hs : absL (L.set (k - 1).toNat { s with off := true }) = (absL L).set (k - 1).toNat ⟨s.up, true⟩ := by unfold absL; rw [List.map_set]; rfl
        have := abR_abs r (L.set (k - 1).toNat { s with off := true })
        rw [hs] at this
        exact ⟨this.1, by simp only [Bool.false_eq_true, if_false]; rw [this.2]; rfl⟩
theorem ab_abs (L : List Sg) (id : Int) : (abM L id).1 = (abS (absL L) id).1 ∧ (abM L id).2.1 = (abS (absL L) id).2.1 ∧ absL (abM L id).2.2 = (abS (absL L) id).2.2 := by
  unfold abM abS
  rw [absL_len, off_abs, ← und_abs]
  have := abR_abs (undL L id) L
  split
  · exact ⟨rfl, rfl, rfl⟩
  · split
    · exact ⟨rfl, rfl, rfl⟩
    · exact ⟨rfl, this.2, this.1⟩

/-- No signal has very many parents. -/
def UpOk (M : List Sm) : Prop := ∀ s ∈ M, s.up.length < 100000
theorem UpOk.L {L : List Sg} (h : UpOk (absL L)) : ∀ s ∈ L, s.up.length < 100000 := fun s hs => h s.abs (List.mem_map.2 ⟨s, hs, rfl⟩)

theorem so_new (w : World) : Calls Try.prog 22 #[] w fun e w' => e = .returned (.pointer (some ⟨w.heap.size, 0, none⟩)) ∧ SO w' w.heap.size [w.heap.size] [] ∧ Ext [] w w' :=
  (sgNew_any w).mono fun _ _ ⟨h1, h2, h3⟩ => ⟨h1, ⟨_, [], h2, rfl, rfl⟩, h3⟩
theorem so_len (b : Nat) (S : List Nat) (M : List Sm) (w : World) (h : SO w b S M) :
    Calls Try.prog 19 #[.pointer (some ⟨b, 0, none⟩)] w fun e w' => e = .returned (.int .i64 M.length) ∧ w = w' := by
  obtain ⟨v, L, h, rfl, rfl⟩ := h
  rw [absL_len]; exact sgLen_any b v L w h
theorem so_aborted (b : Nat) (S : List Nat) (M : List Sm) (id : Int) (hx : M.length < 1000000) (w : World) (h : SO w b S M) :
    Calls Try.prog 29 #[.pointer (some ⟨b, 0, none⟩), .int .i64 id] w fun e w' => e = .returned (.bool (offS M id)) ∧ w = w' := by
  obtain ⟨v, L, h, rfl, rfl⟩ := h
  rw [absL_len] at hx
  rw [← off_abs]; exact sgAborted_any b v L id hx w h
theorem so_under (b : Nat) (S : List Nat) (M : List Sm) (id : Int) (hx : M.length < 100000) (hu : UpOk M) (w : World) (h : SO w b S M) :
    Calls Try.prog 21 #[.pointer (some ⟨b, 0, none⟩), .int .i64 id] w (NewI (undS M id) w) := by
  obtain ⟨v, L, h, rfl, rfl⟩ := h
  rw [absL_len] at hx
  rw [← und_abs]; exact sgUnder_any b v L id hx hu.L w h
def mkL (M : List Sm) (ps : List Int) : List Sm := if mkS M ps = 0 then M ++ [⟨ps, false⟩] else M
theorem so_make (b : Nat) (S : List Nat) (M : List Sm) (sv : Value) (ps : List Int) (hx : M.length < 100000) (hp : ps.length < 100000) (w : World) (h : SO w b S M) (hs : SrcI w sv ps) :
    Calls Try.prog 23 #[.pointer (some ⟨b, 0, none⟩), sv] w fun e w' =>
      e = .returned (.tuple #[.int .i64 (if mkS M ps = 0 then (M.length : Int) + 1 else 0), .int .i64 (mkS M ps)]) ∧ Chg (fun w' S' => SO w' b S' (mkL M ps)) S w w' := by
  obtain ⟨v, L, h, rfl, rfl⟩ := h
  rw [absL_len] at hx ⊢
  rw [← mk_abs]
  refine (sgMake_any b v L sv ps hx hp w h hs).mono ?_
  rintro e w' (⟨h1, h2, rfl⟩ | ⟨h1, h2, v', pa, pc, h3, h4, h5⟩)
  · rw [if_neg h1]
    refine ⟨h2, _, ⟨v, L, h, rfl, ?_⟩, Ext.refl _ _, fun x hx => .inl hx⟩
    unfold mkL; rw [← mk_abs, if_neg h1]
  · rw [if_pos h1, h1]
    refine ⟨h2, _, ⟨v', _, h3, rfl, ?_⟩, h4.mono (fun x hx => .inl (List.mem_append_left _ hx)), h5⟩
    unfold mkL; rw [← mk_abs, if_pos h1]; unfold absL; rw [List.map_append]; rfl
/-- What an abort tells, behind it. -/
def AbP (b : Nat) (S : List Nat) (M : List Sm) (id : Int) (w : World) (e : Ending) (w' : World) : Prop :=
  ∃ (a : Option Addr) (c : Nat), e = .returned (.tuple #[.slice a (abS M id).2.1.length c, .int .i64 (abS M id).1]) ∧ RI w' (.slice a (abS M id).2.1.length c) (abS M id).2.1 ∧ (∀ g, (Value.slice a (abS M id).2.1.length c).ownBlock = some g → w.heap.size ≤ g) ∧
    SO w' b S (abS M id).2.2 ∧ Ext S w w'
theorem so_abort (b : Nat) (S : List Nat) (M : List Sm) (id : Int) (hx : M.length < 1000) (hu : UpOk M) (w : World) (h : SO w b S M) :
    Calls Try.prog 24 #[.pointer (some ⟨b, 0, none⟩), .int .i64 id] w (AbP b S M id w) := by
  obtain ⟨v, L, h, rfl, rfl⟩ := h
  rw [absL_len] at hx
  refine (sgAbort_any b v L id hx hu.L w h).mono ?_
  rintro e w' ⟨a, c, h1, h2, h3, h4, h5, h6⟩
  obtain ⟨k1, k2, k3⟩ := ab_abs L id
  rw [k1, k2] at h1
  rw [k2] at h2 h3
  exact ⟨a, c, h1, h2, h3, ⟨v, _, h4, by rw [h5], k3⟩, h6.mono (fun x hx => .inl (List.mem_append_left _ hx))⟩
end Go.Proofs.Ytmmhpjodnceipaa
