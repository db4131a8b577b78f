/- The clock's functions, by contract: what each call of tick's Clock does to the one cell in which its time lies. -/
import Derived.Test.YtnamodjckniibaaCore
namespace Go.Proofs.Ytnamodjckniibaa
open Go.RowKit

/-- A clock at b tells t. -/
def Clk (w : World) (b : Nat) (t : Int) : Prop := Blk w b #[.int .u64 t] 50

/-- The sum, held at the end. -/
def capAdd (a b : Int) : Int := if b > 18446744073709551615 - a then 18446744073709551615 else a + b

def U64 (x : Int) : Prop := 0 ≤ x ∧ x < 18446744073709551616

theorem capAdd_u64 {a b : Int} (ha : U64 a) (hb : U64 b) : U64 (capAdd a b) := by
  obtain ⟨_, _⟩ := ha; obtain ⟨_, _⟩ := hb
  unfold capAdd U64; split <;> omega

theorem u64_w {x : Int} (h0 : 0 ≤ x) (h1 : x < 18446744073709551616) : IntKind.u64.wrap x = x := by
  simp [IntKind.wrap, IntKind.bits, IntKind.signed]
  omega

set_option maxHeartbeats 400000 in
theorem add_any (a b : Int) (ha : U64 a) (hb : U64 b) (w : World) :
    Calls Try.prog 13 #[.int .u64 a, .int .u64 b] w fun e w' => e = .returned (.int .u64 (capAdd a b)) ∧ w = w' := by
  obtain ⟨a0, a1⟩ := ha; obtain ⟨b0, b1⟩ := hb
  have e1 := u64_w (x := 18446744073709551615 - a) (by omega) (by omega)
  unfold capAdd
  by_cases h : 18446744073709551615 - a < b
  · rw [if_pos h]
    go_enter Try.func13, Try.ntmps13
    go_wp2
    go_ret
    exact ⟨rfl, rfl⟩
  · rw [if_neg h]
    have e2 := u64_w (x := a + b) (by omega) (by omega)
    have h' : b ≤ 18446744073709551615 - a := by omega
    go_enter Try.func13, Try.ntmps13
    go_wp2
    go_ret
    exact ⟨rfl, rfl⟩

set_option maxHeartbeats 400000 in
theorem astore_any (b : Nat) (old v : Int) (w : World) (hc : w.cell? ⟨b, 0, none⟩ = some (.int .u64 old)) (hf : w.frozen? ⟨b, 0, none⟩ = false) :
    Calls Try.prog 29 #[.pointer (some ⟨b, 0, none⟩), .int .u64 v] w fun e w' => e = .returned (.tuple #[]) ∧ w.setCell ⟨b, 0, none⟩ (.int .u64 v) = w' := by
  have hst := run_call_store (P := Try.prog) Try.func33 (by kernel_rfl) (by kernel_rfl) (by kernel_rfl) (by kernel_rfl) (k := .u64) (y := v) hc hf
  go_enter Try.func29, Try.ntmps29
  go_wp2
  go_end0
  exact ⟨rfl, rfl⟩

set_option maxHeartbeats 400000 in
theorem aload_any (b : Nat) (v : Int) (w : World) (hc : w.cell? ⟨b, 0, none⟩ = some (.int .u64 v)) :
    Calls Try.prog 30 #[.pointer (some ⟨b, 0, none⟩)] w fun e w' => e = .returned (.int .u64 v) ∧ w = w' := by
  have hld := run_call_load (P := Try.prog) Try.func34 (by kernel_rfl) (by kernel_rfl) (by kernel_rfl) .u64 (by kernel_rfl) hc
  go_enter Try.func30, Try.ntmps30
  go_wp2
  go_ret
  exact ⟨rfl, rfl⟩

set_option maxHeartbeats 400000 in
theorem now_any (b : Nat) (v : Int) (w : World) (h : Clk w b v) :
    Calls Try.prog 20 #[.pointer (some ⟨b, 0, none⟩)] w fun e w' => e = .returned (.int .u64 v) ∧ w = w' := by
  have hc : w.cell? ⟨b, 0, none⟩ = some (.int .u64 v) := Blk.cell h 0
  go_enter Try.func20, Try.ntmps20
  go_wp2_with (go_at_call 30; refine (aload_any _ v _ hc).mono ?_; rintro e w' ⟨rfl, rfl⟩)
  go_ret
  exact ⟨rfl, rfl⟩

set_option maxHeartbeats 400000 in
theorem past_any (b : Nat) (v x : Int) (w : World) (h : Clk w b v) :
    Calls Try.prog 21 #[.pointer (some ⟨b, 0, none⟩), .int .u64 x] w fun e w' => e = .returned (.bool (decide (x ≤ v))) ∧ w = w' := by
  have hc : w.cell? ⟨b, 0, none⟩ = some (.int .u64 v) := Blk.cell h 0
  go_enter Try.func21, Try.ntmps21
  go_wp2_with (go_at_call 30; refine (aload_any _ v _ hc).mono ?_; rintro e w' ⟨rfl, rfl⟩)
  go_ret
  exact ⟨rfl, rfl⟩

set_option maxHeartbeats 400000 in
theorem new_any (v : Int) (w : World) :
    Calls Try.prog 17 #[.int .u64 v] w fun e w' => e = .returned (.pointer (some ⟨w.heap.size, 0, none⟩)) ∧ w.alloc (.cells #[.int .u64 v] 50) = w' := by
  go_enter Try.func17, Try.ntmps17
  go_wp2_with fail
  refine (astore_any _ 0 v _ ?_ ?_).mono ?_
  · simp [go_sem]
  · simp [go_sem]
  rintro e w' ⟨rfl, rfl⟩
  go_wp2
  go_ret
  exact ⟨rfl, rfl⟩

set_option maxHeartbeats 400000 in
theorem step_any (b : Nat) (v n : Int) (hv : U64 v) (hn : U64 n) (w : World) (h : Clk w b v) :
    Calls Try.prog 19 #[.pointer (some ⟨b, 0, none⟩), .int .u64 n] w fun e w' => e = .returned (.int .u64 (capAdd v n)) ∧ Clk w' b (capAdd v n) ∧ Ext [b] w w' := by
  have hc : w.cell? ⟨b, 0, none⟩ = some (.int .u64 v) := Blk.cell h 0
  have hf : w.frozen? ⟨b, 0, none⟩ = false := Blk.free h 0
  go_enter Try.func19, Try.ntmps19
  go_wp2_with (first | (go_at_call 30; refine (aload_any _ v _ hc).mono ?_; rintro e w' ⟨rfl, rfl⟩) | (go_at_call 13; refine (add_any v n hv hn _).mono ?_; rintro e w' ⟨rfl, rfl⟩) | (go_at_call 29; refine (astore_any _ v _ _ hc hf).mono ?_; rintro e w' ⟨rfl, rfl⟩))
  go_ret
  exact ⟨rfl, Blk.set h 0 _, (Ext.refl _ _).setCell (Or.inl (by simp)) _⟩
end Go.Proofs.Ytnamodjckniibaa
