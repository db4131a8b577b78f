/- What the chapter of the preflights tells by example, by contract. -/
import Derived.Test.YtkbjpackijdnkaaShJoin
namespace Go.Proofs.Ytkbjpackijdnkaa
open Go.RowKit Go.Proofs.YtkbjpackijdnkaaW.PrintLast
set_option linter.unusedVariables false
set_option linter.unusedSimpArgs false

def awW : Wt := ⟨⟨#[]⟩, ⟨#[]⟩, false, ⟨#[80, 85, 84]⟩, ⟨#[]⟩⟩

set_option maxHeartbeats 6400000 in
set_option maxRecDepth 100000 in
theorem awakeP_any (w : World) : Calls Try.prog 23 #[] w fun e w' => e = .returned (.bool true) ∧ Ext [] w w' := by
  have k1 : joinA [] 0 awW 5 = ((1, true, 0), 1, [⟨1, awW, [5]⟩]) := by kernel_rfl
  have k2 : joinA [⟨1, awW, [5]⟩] 1 awW 3 = ((1, false, 0), 1, [⟨1, awW, [5, 3]⟩]) := by kernel_rfl
  have k3 : leaveA [⟨1, awW, [5, 3]⟩] 5 = ((1, false, true), [⟨1, awW, [3]⟩]) := by kernel_rfl
  have k4 : doneA [⟨1, awW, [3]⟩] 1 = ([3], []) := by kernel_rfl
  have u1 : MemOk [⟨1, awW, [5]⟩] := by intro s hs; simp at hs; subst hs; simp
  have u2 : MemOk [⟨1, awW, [5, 3]⟩] := by intro s hs; simp at hs; subst hs; simp
  have u0 : MemOk [] := fun s hs => by simp at hs
  have c1 := fun b S w h => sh_join b S 0 (by omega) (by omega) [] awW 5 (by simp) u0 w h
  have c2 := fun b S w h => sh_join b S 1 (by omega) (by omega) [⟨1, awW, [5]⟩] awW 3 (by simp) u1 w h
  have c3 := fun b S w h => sh_leave b S 1 [⟨1, awW, [5, 3]⟩] 5 (by simp) u2 w h
  have c4 := fun b S w h => sh_done b S 1 [⟨1, awW, [3]⟩] 1 (by simp) w h
  unfold JoinP at c1 c2
  unfold LeaveP at c3
  unfold DoneP at c4
  rw [k1] at c1; rw [k2] at c2; rw [k3] at c3; rw [k4] at c4
  have c1 : ∀ b S w, SH w b S 0 [] → Calls Try.prog 25 #[.pointer (some ⟨b, 0, none⟩), .agg #[.string ⟨#[]⟩, .string ⟨#[]⟩, .bool false, .string ⟨#[80, 85, 84]⟩, .string ⟨#[]⟩], .int .i64 5] w fun e w' => e = .returned (.tuple #[.int .i64 1, .bool true, .int .i64 0]) ∧ Chg (fun w' S' => SH w' b S' 1 [⟨1, awW, [5]⟩]) S w w' := c1
  have c2 : ∀ b S w, SH w b S 1 [⟨1, awW, [5]⟩] → Calls Try.prog 25 #[.pointer (some ⟨b, 0, none⟩), .agg #[.string ⟨#[]⟩, .string ⟨#[]⟩, .bool false, .string ⟨#[80, 85, 84]⟩, .string ⟨#[]⟩], .int .i64 3] w fun e w' => e = .returned (.tuple #[.int .i64 1, .bool false, .int .i64 0]) ∧ Chg (fun w' S' => SH w' b S' 1 [⟨1, awW, [5, 3]⟩]) S w w' := c2
  have c3 : ∀ b S w, SH w b S 1 [⟨1, awW, [5, 3]⟩] → Calls Try.prog 29 #[.pointer (some ⟨b, 0, none⟩), .int .i64 5] w fun e w' => e = .returned (.tuple #[.int .i64 1, .bool false, .bool true]) ∧ Chg (fun w' S' => SH w' b S' 1 [⟨1, awW, [3]⟩]) S w w' := c3
  have c4 : ∀ b S w, SH w b S 1 [⟨1, awW, [3]⟩] → Calls Try.prog 45 #[.pointer (some ⟨b, 0, none⟩), .int .i64 1] w fun e w' => ∃ (a : Option Addr) (c : Nat), e = .returned (.slice a 1 c) ∧ RI w' (.slice a 1 c) [3] ∧ Chg (fun w' S' => SH w' b S' 1 []) S w w' := fun b S w h => (c4 b S w h).mono fun e w' ⟨a, c, g1, g2, g3, g4⟩ => ⟨a, c, g1, g2, g4⟩
  have C1 := Lib.hid c1; have C2 := Lib.hid c2; have C3 := Lib.hid c3; have C4 := Lib.hid c4
  clear k1 k2 k3 k4 c1 c2 c3 c4 u0 u1 u2
  go_enter Try.func23, Try.ntmps23
  go_wp2_with fail
  refine (sh_new w).mono ?_
  rintro e w1 ⟨rfl, h1, e1⟩
  have o1 := Own.start e1 (S := [w.heap.size]) (by simp)
  obtain ⟨b, hb⟩ : ∃ b, w.heap.size = b := ⟨_, rfl⟩
  rw [hb] at h1 o1
  have hX : Blk (w1.alloc (.cells #[.string ⟨#[]⟩, .string ⟨#[]⟩, .bool false, .string ⟨#[80, 85, 84]⟩, .string ⟨#[]⟩] 44 (0, 0))) w1.heap.size #[.string ⟨#[]⟩, .string ⟨#[]⟩, .bool false, .string ⟨#[80, 85, 84]⟩, .string ⟨#[]⟩] 44 := Blk.new _ _ _
  have e2 : Ext [] w1 (w1.alloc (.cells #[.string ⟨#[]⟩, .string ⟨#[]⟩, .bool false, .string ⟨#[80, 85, 84]⟩, .string ⟨#[]⟩] 44 (0, 0))) := (Ext.refl _ _).alloc _
  have hlt := h1.lt
  have H1 := Lib.hid h1; have O1 := Lib.hid o1
  have HX := Lib.hid hX; have E2 := Lib.hid e2; have HLT := Lib.hid hlt
  clear e1 hX hlt h1 o1 e2
  go_wp2_with fail
  clear hb
  refine (C1.out b _ _ (H1.out.keep0 E2.out)).mono ?_
  rintro e w2 ⟨rfl, S2, h2, x2, kk2⟩
  have o2 := ((O1.out.quiet E2.out)).step x2 kk2
  have hX2 := HX.out.keep x2 (fun hm => by have := HLT.out _ hm; omega)
  have q0 := hX2.cell 0; have q1 := hX2.cell 1; have q2 := hX2.cell 2; have q3 := hX2.cell 3; have q4 := hX2.cell 4
  simp only [List.getElem?_toArray, List.getElem?_cons_zero, List.getElem?_cons_succ] at q0 q1 q2 q3 q4
  have hltw := hX2.lt
  generalize w1.heap.size = B at HX hX2 q0 q1 q2 q3 q4 hltw ⊢
  have H2 := Lib.hid h2; have O2 := Lib.hid o2
  clear h2 o2 hX2 x2 kk2 HX E2 HLT O1 H1
  go_wp2_with fail
  refine (C2.out b _ _ H2.out).mono ?_
  rintro e w3 ⟨rfl, S3, h3, x3, kk3⟩
  have o3 := O2.out.step x3 kk3
  have H3 := Lib.hid h3; have O3 := Lib.hid o3
  clear h3 o3 x3 kk3 H2 O2 q0 q1 q2 q3 q4
  go_wp2_with fail
  refine (C3.out b _ _ H3.out).mono ?_
  rintro e w4 ⟨rfl, S4, h4, x4, kk4⟩
  have o4 := O3.out.step x4 kk4
  have H4 := Lib.hid h4; have O4 := Lib.hid o4
  clear h4 o4 x4 kk4 H3 O3
  go_wp2_with fail
  refine (C4.out b _ _ H4.out).mono ?_
  rintro e w5 ⟨la, lc, rfl, hr5, S5, h5, x5, kk5⟩
  have o5 := O4.out.step x5 kk5
  obtain ⟨lg, rfl, hlg⟩ := hr5.addr (by omega)
  have l0 := hr5.cell encI_ok.len (i := 0) (x := 3) rfl 0 (by omega)
  simp only [encI, Nat.add_zero, Nat.zero_mul, List.getElem?_cons_zero] at l0
  have hlen := sh_len b S5 1 [] w5 h5
  have HLEN := Lib.hid hlen; have O5 := Lib.hid o5
  clear hr5 h5 x5 kk5 o5 hlen H4 O4
  go_wp2_with fail
  refine HLEN.out.mono ?_
  rintro e w6 ⟨rfl, rfl⟩
  go_wp2_with fail
  go_ret
  exact ⟨rfl, O5.out.ext⟩
end Go.Proofs.Ytkbjpackijdnkaa
