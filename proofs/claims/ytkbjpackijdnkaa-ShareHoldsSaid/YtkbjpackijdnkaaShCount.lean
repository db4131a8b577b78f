/- The preflights' table: count; the counter's Add, by contract. -/
import Derived.Test.YtkbjpackijdnkaaShMore
import Derived.Laws.LoneSync
namespace Go.Proofs.Ytkbjpackijdnkaa
open Go.RowKit
set_option linter.unusedVariables false
set_option linter.unusedSimpArgs false

theorem cntA_take (M : List Sk) : ∀ k s, M[k]? = some s → cntA (M.take (k + 1)) = cntA (M.take k) + s.ids.length := by
  induction M with
  | nil => intro k s h; simp at h
  | cons x r ih =>
    intro k s h
    cases k with
    | zero => simp at h; subst h; simp [cntA]
    | succ k =>
      simp at h
      have := ih k s h
      simp only [List.take_succ_cons, cntA]
      omega
theorem cntA_le {M : List Sk} (h : MemOk M) : ∀ k, cntA (M.take k) ≤ k * 100000 := by
  induction M with
  | nil => intro k; simp [cntA]
  | cons x r ih =>
    intro k
    cases k with
    | zero => simp [cntA]
    | succ k =>
      have h1 := ih (fun s hs => h s (List.mem_cons_of_mem _ hs)) k
      have h2 := h x (by simp)
      simp only [List.take_succ_cons, cntA]
      omega

set_option maxHeartbeats 3200000 in
set_option maxRecDepth 100000 in
theorem sh_count (b : Nat) (S : List Nat) (last : Int) (M : List Sk) (hx : M.length < 1000) (hu : MemOk M) (w : World) (h : SH w b S last M) :
    Calls Try.prog 60 #[.pointer (some ⟨b, 0, none⟩)] w fun e w' => e = .returned (.int .i64 (cntA M)) ∧ Ext [] w w' := by
  obtain ⟨v, L, h, hS, rfl⟩ := h
  rw [absH_len] at hx
  obtain ⟨a, cap, rfl⟩ := h.ob.row.val
  obtain ⟨n, hn⟩ : ∃ n, n = L.length := ⟨_, rfl⟩
  rw [← hn] at h hx
  have hcv : w.cell? ⟨b, 0, none⟩ = some (.slice a n cap) := h.ob.blk.cell 0
  have HROW := Lib.hid h.ob.row
  have hle := cntA_le hu
  have HLE := Lib.hid hle; have HU := Lib.hid hu.L; have HN := Lib.hid hn
  clear h hS hn hu hle
  go_enter Try.func60, Try.ntmps60
  go_wp2_with fail
  go_loopw [3, 11] (fun sv iv wr => ∃ (k t : Nat), k ≤ n ∧ iv = .int .i64 k ∧ sv = .int .i64 t ∧ t ≤ k * 100000 ∧ Ext [] w wr ∧ Hid (t = cntA ((absH L).take k))) (fun _ iv _ => n - (intOf iv).toNat)
  case atStart => exact ⟨0, 0, Nat.zero_le _, rfl, rfl, Nat.le_refl _, Ext.refl _ _, by simp [Hid, cntA]⟩
  case round =>
    obtain ⟨k, t, hkn, rfl, rfl, htk, her, hct⟩ := hrel
    by_cases hk : k < n
    · have d1 : decide (k < n) = true := decide_eq_true hk
      obtain ⟨s, hs⟩ : ∃ s, L[k]? = some s := ⟨_, List.getElem?_eq_getElem (by rw [← HN.out]; exact hk)⟩
      have hr := HROW.out.keep her (by simp)
      obtain ⟨g, rfl, hgl⟩ := hr.addr (by omega)
      have c0 := hr.cell encSh_ok.len hs 0 (by omega); have c1 := hr.cell encSh_ok.len hs 1 (by omega); have c2 := hr.cell encSh_ok.len hs 2 (by omega); have c3 := hr.cell encSh_ok.len hs 3 (by omega); have c4 := hr.cell encSh_ok.len hs 4 (by omega); have c5 := hr.cell encSh_ok.len hs 5 (by omega); have c6 := hr.cell encSh_ok.len hs 6 (by omega)
      simp only [encSh, Sh.row, Nat.add_zero, List.getElem?_cons_zero, List.getElem?_cons_succ] at c0 c1 c2 c3 c4 c5 c6
      have b1 : (0 : Int) ≤ (k : Int) := by omega
      have b2 : (k : Int) < (n : Int) := by omega
      have hsl := HU.out s (List.mem_of_getElem? hs)
      have hst := cntA_take (absH L) k _ (absH_at hs)
      obtain ⟨sl, hsle⟩ : ∃ sl, sl = s.ids.length := ⟨_, rfl⟩
      rw [← hsle] at hsl c6
      have hst2 : cntA ((absH L).take (k + 1)) = t + sl := by rw [hst, ← hct.out, hsle]; rfl
      have HST := Lib.hid hst2
      clear hr hs hst hst2 hct hsle
      go_wp2_with fail
      exact ⟨⟨k + 1, t + sl, by omega, by go_num, by go_num, by omega, her.alloc _, HST.out.symm⟩, by simp [intOf]; omega⟩
    · have d1 : decide (k < n) = false := decide_eq_false hk
      have hkn2 : k = n := by omega
      go_wp2_with fail
      go_ret
      refine ⟨ret_int ?_, her⟩
      rw [hct.out, List.take_of_length_le (by rw [absH_len, ← HN.out]; omega)]

set_option maxHeartbeats 1600000 in
theorem add_any (b : Nat) (last : Int) (h0 : 0 ≤ last) (h1 : last < 1000000) (w : World) (hc : w.cell? ⟨b, 1, none⟩ = some (.int .i64 last)) (hz : w.frozen? ⟨b, 1, none⟩ = false) :
    Calls Try.prog 63 #[.pointer (some ⟨b, 1, none⟩), .int .i64 1] w fun e w' => e = .returned (.int .i64 (last + 1)) ∧ w' = w.setCell ⟨b, 1, none⟩ (.int .i64 (last + 1)) := by
  have hd := run_call_add (P := Try.prog) (f := 79) (fn := Try.f79) (by kernel_rfl) (by rfl) (by rfl) (by kernel_rfl) .i64 (by kernel_rfl) (a := ⟨b, 1, none⟩) (x := last) (y := 1) (s := last + 1) hc hz (by simp [Op.intArith, go_sem]; simp [IntKind.wrap, IntKind.bits, IntKind.signed]; omega)
  go_enter Try.func63, Try.ntmps63
  go_wp2_with fail
  go_ret
  exact ⟨rfl, rfl⟩
end Go.Proofs.Ytkbjpackijdnkaa
