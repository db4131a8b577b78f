/- Text of the statements' own package: so many times a byte. -/
import Derived.Test.YtjmjnahihkhonaaCore
import Derived.Deep.OwnRows
import Derived.Laws.BytesArg
namespace Go.Proofs.Ytjmjnahihkhonaa
open Go.RowKit

theorem info_u8 : (Try.prog.info? 5).map (fun i => (i.zero, i.size, i.bytes)) = some (some (.int .u8 0), 1, 1) := by kernel_rfl

set_option maxHeartbeats 800000 in
theorem text_any (n : Nat) (hn : n ≤ 1000000) (b : Int) (w : World) :
    Calls Try.prog 19 #[.int .i64 n, .int .u8 b] w fun e w' => e = .returned (.string (strOfNums (List.replicate n b))) ∧ Ext [] w w' := by
  have hmk := run_make_row' (P := Try.prog) 38 5 (.int .u8 0) 1 Try.underlying38 info_u8 rfl .i64 .i64 n (by omega) (by omega) w
  have h0 : 0 ≤ (n : Int) := by omega
  go_enter Try.func19, Try.ntmps19
  go_wp2_with fail
  generalize hW : World.alloc w _ = w1
  have hb : Blk w1 w.heap.size (madeCells #[.int .u8 0] n) 5 := by subst hW; exact Blk.new _ _ _
  have he : Ext [] w w1 := by subst hW; exact (Ext.refl _ _).alloc _
  clear hW hmk
  have hat : ∀ j, j < n → ∃ v : Int, w1.cell? ⟨w.heap.size, j, none⟩ = some (.int .u8 v) := by
    intro j hj
    refine ⟨0, ?_⟩
    rw [hb.cell j]
    simp [madeCells, hj, Nat.mod_one]
  have hfr : ∀ j, j < n → w1.frozen? ⟨w.heap.size, j, none⟩ = false := fun j _ => hb.free j
  have HA := Lib.hid hat; have HF := Lib.hid hfr
  have hlt := hb.lt
  clear hat hfr hb
  go_loopw [6] (fun i wr => ∃ k : Nat, k ≤ n ∧ i = .int .i64 k ∧ Hid (∀ j, j < n → ∃ v : Int, wr.cell? ⟨w.heap.size, j, none⟩ = some (.int .u8 v) ∧ (j < k → v = b)) ∧ Hid (∀ j, j < n → wr.frozen? ⟨w.heap.size, j, none⟩ = false) ∧ Ext [] w wr) (fun i _ => n - (intOf i).toNat)
  case atStart => exact ⟨0, Nat.zero_le _, rfl, fun j hj => (by obtain ⟨v, hv⟩ := HA.out j hj; exact ⟨v, hv, fun h => absurd h (by omega)⟩), HF, he⟩
  case round =>
    obtain ⟨k, hk, rfl, hcr, hfr, her⟩ := hrel
    by_cases hlt : k < n
    · obtain ⟨v, hc, -⟩ := hcr.out k hlt
      have hf := hfr.out k hlt
      have hlt' : (k : Int) < (n : Int) := by omega
      go_wp2
      go_roundw
      case rel =>
        refine ⟨k + 1, by omega, by go_num, fun j hj => ?_, fun j hj => ?_, her.setCell (Or.inr (Nat.le_refl _)) _⟩
        · by_cases hjk : j = k
          · subst hjk
            exact ⟨b, World.cell?_setCell_same _ _ _ hc, fun _ => rfl⟩
          · obtain ⟨u, hu, hu2⟩ := hcr.out j hj
            exact ⟨u, by rw [World.cell?_setCell_other _ _ _ _ (by simp <;> omega)]; exact hu, fun h => hu2 (by omega)⟩
        · simpa using hfr.out j hj
      case measure => simp [intOf]; omega
    · obtain rfl : k = n := by omega
      have hcb := run_convert_bytes_arg (P := Try.prog) wr 38 5 Try.underlying38 Try.underlying5 w.heap.size 0 k k (List.replicate k b) (by simp)
        (fun i hi => by obtain ⟨u, hu, hu2⟩ := hcr.out i hi; rw [Nat.zero_add, hu, hu2 hi]; simp [List.getD_eq_getElem?_getD, hi]) 9 Try.underlying9
      have hd : decide (k < k) = false := by simp
      go_wp2
      go_ret
      exact ⟨rfl, her⟩
end Go.Proofs.Ytjmjnahihkhonaa
