/- The signals' tree: Under, by contract. -/
import Derived.Test.YtmmhpjodnceipaaSignal
import Derived.Deep.DeepCutAuto
import Derived.Deep.CutBlock
namespace Go.Proofs.Ytmmhpjodnceipaa
open Go.RowKit
set_option linter.unusedVariables false
set_option linter.unusedSimpArgs false

def ups (L : List Sg) : List (List Int) := L.map Sg.up

/-- What is under the signal i + 1 among it and the m next ones. -/
def undN (us : List (List Int)) (i : Nat) : Nat → List Int
  | 0 => [(i : Int) + 1]
  | m + 1 => match us[i + 1 + m]? with
    | some u => if u.any (hasI (undN us i m)) then undN us i m ++ [(i : Int) + 2 + m] else undN us i m
    | none => undN us i m

theorem undN_len (us : List (List Int)) (i : Nat) : ∀ m, (undN us i m).length ≤ m + 1
  | 0 => by simp [undN]
  | m + 1 => by
    have := undN_len us i m
    rw [undN]
    split
    · split
      · simp; omega
      · omega
    · omega

/-- What is under a signal. -/
def undL (L : List Sg) (id : Int) : List Int := if isS L.length id then undN (ups L) (id - 1).toNat (L.length - id.toNat) else []

set_option maxHeartbeats 400000 in
theorem isIn (O : Nat) (out : Value) (xs : List Int) (hx : xs.length < 1000000) (w : World) (hc : w.cell? ⟨O, 0, none⟩ = some out) (h : RI w out xs) : PredI Try.prog 48 #[.pointer (some ⟨O, 0, none⟩)] (hasI xs) w := by
  intro W x he
  have hB : O < w.heap.size := lt_of_cell hc
  have hc' := (he.cell (p := ⟨O, 0, none⟩) hB (by simp)).trans hc
  have hk := intContains_any out xs x hx W (h.keep he (by simp))
  obtain ⟨a, cap, rfl⟩ := h.val
  clear hc he h
  go_enter Try.func48, Try.ntmps48
  go_wp2_with fail
  refine hk.mono ?_
  rintro e w1 ⟨rfl, rfl⟩
  go_wp2_with fail
  go_ret
  exact ⟨rfl, Ext.refl _ _⟩

/-- A new row of numbers. -/
def NewI (ks : List Int) (w : World) (e : Ending) (w' : World) : Prop :=
  ∃ (a : Option Addr) (c : Nat), e = .returned (.slice a ks.length c) ∧ RI w' (.slice a ks.length c) ks ∧ Ext [] w w' ∧ (∀ g, (Value.slice a ks.length c).ownBlock = some g → w.heap.size ≤ g)

theorem NewI.nil (w : World) : NewI [] w (.returned (.slice none 0 0)) w := ⟨none, 0, rfl, Rw.nil _, Ext.refl _ _, fun g hg => by simp [Value.ownBlock] at hg⟩

set_option maxHeartbeats 3200000 in
set_option maxRecDepth 100000 in
theorem sgUnder_any (b : Nat) (v : Value) (L : List Sg) (id : Int) (hx : L.length < 100000) (hup : ∀ s ∈ L, s.up.length < 100000) (w : World) (h : Tr w b v L) :
    Calls Try.prog 21 #[.pointer (some ⟨b, 0, none⟩), .int .i64 id] w (NewI (undL L id) w) := by
  have hhas := sgHas_any b v L id (by omega) w h
  cases hq : isS L.length id with
  | false =>
    rw [hq] at hhas
    have hU : undL L id = [] := by unfold undL; rw [hq]; rfl
    rw [hU]
    clear h hq hU
    go_enter Try.func21, Try.ntmps21
    go_wp2_with fail
    refine hhas.mono ?_
    rintro e w1 ⟨rfl, rfl⟩
    go_wp2_with fail
    go_ret
    exact NewI.nil _
  | true =>
    rw [hq] at hhas
    obtain ⟨i, rfl, hi⟩ := isS_true hq
    obtain ⟨n, hn⟩ : ∃ n, n = L.length := ⟨_, rfl⟩
    have hU : undL L ((i : Int) + 1) = undN (ups L) i (n - (i + 1)) := by
      unfold undL; rw [hq, if_pos rfl, hn]; congr 1 <;> omega
    rw [hU]
    obtain ⟨a, cap, rfl⟩ := h.ob.row.val
    obtain ⟨us, hus⟩ : ∃ us, us = ups L := ⟨_, rfl⟩
    rw [← hus]
    have hob := h.ob
    rw [← hn] at hi hx
    rw [← hn] at hob
    obtain ⟨gb, rfl, hgl⟩ := hob.row.addr (by omega)
    have HN := Lib.hid hn; have HH := Lib.hid h; have HUS := Lib.hid hus; have HUP := Lib.hid hup
    have eg := enters_of Try.func48 (by kernel_rfl) rfl
    clear h hq hn hob hU hus hup
    go_enter Try.func21, Try.ntmps21
    go_wp2_with fail
    refine hhas.mono ?_
    rintro e w1 ⟨rfl, rfl⟩
    clear hhas
    have e0 : Ext [] w ((w.alloc (Obj.cells #[.int .i64 ((i : Int) + 1)] 3)).alloc (Obj.cells #[.slice (some ⟨w.heap.size, 0, none⟩) 1 1] 37)) := ((Ext.refl _ _).alloc _).alloc _
    have hO : Blk ((w.alloc (Obj.cells #[.int .i64 ((i : Int) + 1)] 3)).alloc (Obj.cells #[.slice (some ⟨w.heap.size, 0, none⟩) 1 1] 37)) (w.heap.size + 1) #[.slice (some ⟨w.heap.size, 0, none⟩) 1 1] 37 := by
      have := Blk.new (w.alloc (Obj.cells #[.int .i64 ((i : Int) + 1)] 3)) #[.slice (some ⟨w.heap.size, 0, none⟩) 1 1] 37
      rwa [World.size_alloc] at this
    have hr0 : RI ((w.alloc (Obj.cells #[.int .i64 ((i : Int) + 1)] 3)).alloc (Obj.cells #[.slice (some ⟨w.heap.size, 0, none⟩) 1 1] 37)) (.slice (some ⟨w.heap.size, 0, none⟩) 1 1) [(i : Int) + 1] := by
      refine Rw.alloc ?_ _
      refine ⟨rfl, .inr ⟨w.heap.size, 1, #[.int .i64 ((i : Int) + 1)], rfl, Nat.zero_le _, Blk.new w _ _, Nat.le_refl _, by unfold maxLen; decide, rfl, rfl⟩⟩
    go_wp2_with fail
    go_loopw [6] (fun iv wr => ∃ (m : Nat) (a2 : Option Addr) (l2 c2 : Nat), m ≤ n - (i + 1) ∧ l2 ≤ m + 1 ∧ iv = .int .i64 ((i : Int) + 2 + m) ∧ Blk wr (w.heap.size + 1) #[.slice a2 l2 c2] 37 ∧ RI wr (.slice a2 l2 c2) (undN us i m) ∧ Ext [] w wr ∧ Hid (∀ g, (Value.slice a2 l2 c2).ownBlock = some g → w.heap.size ≤ g)) (fun iv _ => n + 2 - (intOf iv).toNat)
    case atStart => exact ⟨0, _, 1, 1, Nat.zero_le _, Nat.le_refl _, by go_num, hO, hr0, e0, fun g hg => by simp [Value.ownBlock] at hg; omega⟩
    case round =>
      obtain ⟨m, a2, l2, c2, hmn, hl2, rfl, hB, hR, her, hfr⟩ := hrel
      clear hO hr0 e0
      have hk := HH.out.keep0 her
      have hko := hk.ob
      rw [← HN.out] at hko
      have hcv : wr.cell? ⟨b, 0, none⟩ = some (.slice (some ⟨gb, 0, none⟩) n cap) := hko.blk.cell 0
      have hcO : wr.cell? ⟨w.heap.size + 1, 0, none⟩ = some (.slice a2 l2 c2) := hB.cell 0
      by_cases hm : m < n - (i + 1)
      · obtain ⟨s, hs⟩ : ∃ s, L[i + 1 + m]? = some s := ⟨_, List.getElem?_eq_getElem (by rw [← HN.out]; omega)⟩
        have d1 : decide ((i : Int) + 2 + (m : Int) ≤ (n : Int)) = true := decide_eq_true (by omega)
        obtain ⟨q, hq⟩ : ∃ q : Nat, q = i + 1 + m := ⟨_, rfl⟩
        rw [← hq] at hs
        have hqi : (i : Int) + 2 + (m : Int) - 1 = (q : Int) := by omega
        have hc0 := hko.row.cell encG_ok.len hs 0 (by omega)
        simp only [encG, Nat.add_zero, List.getElem?_cons_zero, Sg.row] at hc0
        have b1 : (0 : Int) ≤ (q : Int) := by omega
        have b2 : (q : Int) < (n : Int) := by omega
        have hus : us[q]? = some s.up := by rw [HUS.out]; unfold ups; rw [List.getElem?_map, hs]; rfl
        have hstep : undN us i (m + 1) = if s.up.any (hasI (undN us i m)) then undN us i m ++ [(i : Int) + 2 + m] else undN us i m := by
          rw [undN, ← hq, hus]
        have hsu := HUP.out s (List.mem_of_getElem? hs)
        have hin := hk.inn s (List.mem_of_getElem? hs)
        have hlu := undN_len us i m
        have hcf := intContainsFunc_any (hasI (undN us i m)) _ #[.pointer (some ⟨w.heap.size + 1, 0, none⟩)] eg s.row s.up (by omega) wr hin (isIn _ _ _ (by omega) wr hcO hR)
        have hfO : wr.frozen? ⟨w.heap.size + 1, 0, none⟩ = false := hB.free 0
        have HST := Lib.hid hstep; have HCF := Lib.hid hcf; have HB := Lib.hid hB; have HR := Lib.hid hR
        have hl63 : l2 + 1 ≤ 1000000 := by omega
        clear hs hin hus hstep hcf hB hR hk hko hsu hlu hq
        generalize s.up.any (hasI (undN us i m)) = d at HST HCF
        unfold Sg.row at HCF
        cases d with
        | false =>
          rw [if_neg (by simp)] at HST
          go_wp2_with fail
          refine HCF.out.mono ?_
          rintro e w2 ⟨rfl, e2⟩
          go_wp2_with fail
          exact ⟨⟨m + 1, a2, l2, c2, by omega, by omega, by go_num, HB.out.keep e2 (by simp), by rw [HST.out]; exact HR.out.keep e2 (by simp), her.trans e2 (by simp), hfr⟩, by simp [intOf]; omega⟩
        | true =>
          rw [if_pos rfl] at HST
          go_wp2_with fail
          refine HCF.out.mono ?_
          rintro e w2 ⟨rfl, e2⟩
          have her2 := her.trans e2 (by simp)
          have hB2 := HB.out.keep e2 (by simp)
          have hcO2 : w2.cell? ⟨w.heap.size + 1, 0, none⟩ = some (.slice a2 l2 c2) := hB2.cell 0
          have hsl := Sl.new (enc := encI .i64) w2 ((i : Int) + 2 + m) 3
          have hR2 := HR.out.keep e2 (by simp)
          have hrw := hR2.alloc (.cells (encI .i64 ((i : Int) + 2 + m)).toArray 3 (0, 0))
          have hlen : LenIs (undN us i m) [(i : Int) + 2 + m] (l2 + 1) := by unfold LenIs; rw [← hR2.len]; rfl
          have HB2 := Lib.hid hB2
          have hneO : (Value.slice a2 l2 c2).ownBlock ≠ some (w.heap.size + 1) := hR2.ne_blk hB2 (by decide)
          have HNEO := Lib.hid hneO
          clear HB HR hcO hfO hcv hc0 hB2 hR2 HCF her hneO
          go_wp2_with (at_builtin; refine wpList_appN tyI encI_ok (by rfl) _ _ (by rfl) hrw (by rfl) hsl (by rfl) hlen hl63 ?_)
          intro a5 c5 w5 hr5 hS5 hg5
          have hB5 := (HB2.out.alloc (.cells (encI .i64 ((i : Int) + 2 + m)).toArray 3 (0, 0))).keep (hS5 (Value.slice a2 l2 c2).ownBlock.toList (by simp +contextual)) (by intro hq; exact HNEO.out (by simpa using hq))
          have e5 : Ext [] w w5 := fresh_app (v1 := .slice a2 l2 c2) (her2.alloc _) hfr.out hS5
          have hg6 : ∀ g, (Value.slice a5 (l2 + 1) c5).ownBlock = some g → w.heap.size ≤ g := fun g hg => (hg5 g hg).elim (hfr.out g) (fun h => by have := her2.size; omega)
          have hcO5 : w5.cell? ⟨w.heap.size + 1, 0, none⟩ = some (.slice a2 l2 c2) := hB5.cell 0
          have hfO5 : w5.frozen? ⟨w.heap.size + 1, 0, none⟩ = false := hB5.free 0
          have hB6 := hB5.set 0 (.slice a5 (l2 + 1) c5)
          have e6 : Ext [w.heap.size + 1] w5 (w5.setCell ⟨w.heap.size + 1, 0, none⟩ (.slice a5 (l2 + 1) c5)) := (Ext.refl _ _).setCell (Or.inl (by simp)) _
          have hr6 := hr5.keep e6 (by intro g hg hq; simp at hq; subst hq; exact hr5.ne_blk hB5 (by decide) hg)
          rw [← HST.out] at hr6
          have HR6 := Lib.hid hr6; have HB6 := Lib.hid hB6; have HG6 := Lib.hid hg6; have HE6 := Lib.hid (e5.trans e6 (by simp))
          clear hr5 hS5 hg5 hB5 hB6 hr6 hg6 hsl hrw hlen HST hcO2 her2 hfr
          go_wp2_with fail
          exact ⟨⟨m + 1, a5, l2 + 1, c5, by omega, by omega, by go_num, HB6.out, HR6.out, HE6.out, HG6.out⟩, by simp [intOf]; omega⟩
      · have d1 : decide ((i : Int) + 2 + (m : Int) ≤ (n : Int)) = false := decide_eq_false (by omega)
        obtain rfl : m = n - (i + 1) := by omega
        have hll := hR.len
        have HLL := Lib.hid hll
        clear hm hmn hk hko hll
        go_wp2_with fail
        go_ret
        rw [HLL.out] at hR hfr ⊢
        exact ⟨a2, c2, rfl, hR, her, hfr.out⟩
end Go.Proofs.Ytmmhpjodnceipaa
