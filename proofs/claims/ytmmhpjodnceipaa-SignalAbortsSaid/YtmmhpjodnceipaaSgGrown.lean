/- A tree by numbers (grown), by contract. -/
import Derived.Test.YtmmhpjodnceipaaRefSgO
import Derived.Test.YtmmhpjodnceipaaStructs
import Derived.Deep.DeepCutAuto
namespace Go.Proofs.Ytmmhpjodnceipaa
open Go.RowKit Go.Proofs.YtmmhpjodnceipaaW.PrintLast
set_option linter.unusedVariables false
set_option linter.unusedSimpArgs false

/-- A tree that was grown: none of it is aborted. -/
def GrownP (w : World) (e : Ending) (w' : World) : Prop :=
  ∃ (b : Nat) (S : List Nat) (M : List Sm), e = .returned (.pointer (some ⟨b, 0, none⟩)) ∧ SO w' b S M ∧ UpIn M ∧ M.length ≤ 60 ∧ (∀ s ∈ M, s.off = false) ∧ Own w w' S

set_option maxHeartbeats 6400000 in
set_option maxRecDepth 100000 in
theorem grown_any (w : World) (a : Option Addr) (n c : Nat) (xs : List Int) (hs : Slc (encI .u64) 1 w a n xs) :
    Calls Try.prog 18 #[.slice a n c] w (GrownP w) := by
  have HS := Lib.hid hs
  clear hs
  go_enter Try.func18, Try.ntmps18
  go_wp2_with fail
  refine (so_new w).mono ?_
  rintro e w1 ⟨rfl, h1, e1⟩
  have o1 := Own.start e1 (S := [w.heap.size]) (by simp)
  obtain ⟨b, hb⟩ : ∃ b, w.heap.size = b := ⟨_, rfl⟩
  rw [hb] at h1 o1
  clear e1
  go_wp2_with fail
  go_loopw [4] (fun iv wr => ∃ (i : Nat) (S : List Nat) (M : List Sm), i ≤ n ∧ i ≤ 60 ∧ iv = .int .i64 i ∧ SO wr b S M ∧ Own w wr S ∧ M.length ≤ i ∧ Hid (UpIn M) ∧ Hid (∀ s ∈ M, s.off = false)) (fun iv _ => n - (intOf iv).toNat)
  case atStart => exact ⟨0, _, [], Nat.zero_le _, Nat.zero_le _, rfl, h1, o1, Nat.le_refl _, UpIn.nil, by intro s hs; simp at hs⟩
  case round =>
    obtain ⟨i, S, M, hin, hi60, rfl, hw, ow, hlen, hok, hof⟩ := hrel
    clear h1 o1 hb
    by_cases hi : i < n
    · have d1 : decide (i < n) = true := decide_eq_true hi
      by_cases h60 : i < 60
      · have d2 : (i : Int) < 60 := by omega
        obtain ⟨x, hx⟩ : ∃ x, xs[i]? = some x := ⟨_, List.getElem?_eq_getElem (by rw [HS.out.1]; exact hi)⟩
        have hxa : ∃ ab ao, a = some ⟨ab, ao, none⟩ ∧ ab < w.heap.size ∧ w.cell? ⟨ab, ao + i, none⟩ = some (.int .u64 x) := by
          obtain ⟨ab, ao, h1, h2, h3⟩ := HS.out.2 (by omega)
          have := h3 i x hx 0 _ rfl
          rw [Nat.mul_one, Nat.add_zero] at this
          exact ⟨ab, ao, h1, h2, this⟩
        obtain ⟨ab, ao, rfl, hab, hx0⟩ := hxa
        have hx1 := (ow.ext.cell (p := ⟨ab, ao + i, none⟩) hab (by simp)).trans hx0
        have b1 : (0 : Int) ≤ (i : Int) := by omega
        have b2 : (i : Int) < (n : Int) := by omega
        clear hx hx0
        generalize hwo : wr = wo at *
        clear hwo
        go_wp2_with fail
        go_loopw [5, 6] (fun uv kv wx => ∃ (k : Nat) (a2 : Option Addr) (c2 : Nat) (ps : List Int) (l2 : Nat), 1 ≤ k ∧ k ≤ i + 1 ∧ kv = .int .i64 k ∧ uv = .slice a2 l2 c2 ∧ l2 + 1 ≤ k ∧ RI wx (.slice a2 l2 c2) ps ∧ Ext [] wo wx ∧ Hid (∀ q, (Value.slice a2 l2 c2).ownBlock = some q → wo.heap.size ≤ q)) (fun _ kv _ => i + 1 - (intOf kv).toNat)
        case atStart => exact ⟨1, none, 0, [], 0, Nat.le_refl _, by omega, rfl, rfl, Nat.le_refl _, Rw.nil _, Ext.refl _ _, fun q hq => by simp [Value.ownBlock] at hq⟩
        case round =>
          obtain ⟨k, a2, c2, ps, l2, hk1, hki, rfl, rfl, hl2, hR, her, hfr⟩ := hrel
          by_cases hk : k ≤ i
          · have d3 : decide (k ≤ i) = true := decide_eq_true hk
            have hx2 := (her.cell (p := ⟨ab, ao + i, none⟩) (Nat.lt_of_lt_of_le hab ow.ext.size) (by simp)).trans hx1
            have hw1 := hw.keep0 her
            have HOW := Lib.hid ow; have HW := Lib.hid hw; have HX := Lib.hid hx1
            clear hw ow hx1
            cases hq : (bits BinOp.and IntKind.u64 (x / 2 ^ k) 7 == 7) with
            | false =>
              go_wp2_with fail
              exact ⟨⟨k + 1, a2, c2, ps, l2, by omega, by omega, by go_num, rfl, by omega, hR, her, hfr⟩, by simp [intOf]; omega⟩
            | true =>
              have hl63 : l2 + 1 ≤ 1000000 := by omega
              have hlen2 : LenIs ps [(k : Int)] (l2 + 1) := by unfold LenIs; rw [← hR.len]; rfl
              have hsl := Sl.new (enc := encI .i64) wr (k : Int) 3
              have hrw := hR.alloc (.cells (encI .i64 (k : Int)).toArray 3 (0, 0))
              clear hR
              go_wp2_with (at_builtin; refine wpList_appN tyI encI_ok (by rfl) _ _ (by rfl) hrw (by rfl) hsl (by rfl) hlen2 hl63 ?_)
              intro a5 c5 w5 hr5 hS5 hg5
              have hs4 := her.size
              have hS6 := hS5 (Value.slice a2 l2 c2).ownBlock.toList (by simp +contextual)
              have her5 : Ext [] wo w5 := (her.alloc _).fresh hS6 (fun x hx => hfr.out x (by simpa using hx))
              have hg6 : Hid (∀ x, (Value.slice a5 (l2 + 1) c5).ownBlock = some x → wo.heap.size ≤ x) := fun x hx => (hg5 x hx).elim (hfr.out x) (fun h => by omega)
              have HR5 := Lib.hid hr5; have HER5 := Lib.hid her5
              clear hS5 hS6 hg5 hr5 her5 hsl hrw hlen2 hfr hx2
              go_wp2_with fail
              exact ⟨⟨k + 1, a5, c5, ps ++ [(k : Int)], l2 + 1, by omega, by omega, by go_num, rfl, by omega, HR5.out, HER5.out, hg6⟩, by simp [intOf]; omega⟩
          · have d3 : decide (k ≤ i) = false := decide_eq_false hk
            have hplen : ps.length < 100000 := by rw [← hR.len]; omega
            have hmk := so_make b S M (.slice a2 l2 c2) ps (by omega) hplen wr (hw.keep0 her) hR.srcI
            have hkl := mkL_len M ps
            have hko := hok.out.mk hplen
            have hkf : ∀ s ∈ mkL M ps, s.off = false := by
              unfold mkL
              split
              · intro s hs
                rcases List.mem_append.1 hs with hs | hs
                · exact hof.out s hs
                · have : s = ⟨ps, false⟩ := by simpa using hs
                  rw [this]
              · exact hof.out
            have HMK := Lib.hid hmk; have HKL := Lib.hid hkl; have HKO := Lib.hid hko; have HKF := Lib.hid hkf
            have HOW := Lib.hid (ow.quiet her)
            clear hmk hkl hko hkf hw ow hplen hR
            go_wp2_with fail
            refine HMK.out.mono ?_
            rintro e w5 ⟨rfl, S5, h5, e5, k5⟩
            have o5 := HOW.out.step e5 k5
            go_wp2_with fail
            exact ⟨⟨i + 1, S5, _, by omega, by omega, rfl, h5, o5, by have := HKL.out; omega, HKO.out, HKF.out⟩, by simp [intOf]; omega⟩
      · have d2 : decide (i < 60) = false := decide_eq_false h60
        go_wp2_with fail
        go_ret
        exact ⟨b, S, M, rfl, hw, hok.out, by omega, hof.out, ow⟩
    · have d1 : decide (i < n) = false := decide_eq_false hi
      go_wp2_with fail
      go_ret
      exact ⟨b, S, M, rfl, hw, hok.out, by omega, hof.out, ow⟩
end Go.Proofs.Ytmmhpjodnceipaa
