/- What the chapter of the groups tells by example; calls in known states, by contract. -/
import Derived.Test.YtlagogjnoibkcaaGrLeave
import Derived.Test.YtlagogjnoibkcaaIntsAny
namespace Go.Proofs.Ytlagogjnoibkcaa
open Go.RowKit Go.Proofs.YtlagogjnoibkcaaW.PrintLast
set_option linter.unusedVariables false
set_option linter.unusedSimpArgs false

theorem gs_join_at {M M' : List Gk} {g id c : Int} (hp : joinG M g id = (c, M')) (hx : M.length < 10000) (hu : OkG M) (hso : SortG M) {b : Nat} {S : List Nat} (w : World) (h : GS w b S M) :
    Calls Try.prog 27 #[.pointer (some ⟨b, 0, none⟩), .int .i64 g, .int .i64 id] w fun e w' => e = .returned (.int .i64 c) ∧ Chg (fun w' S' => GS w' b S' M') S w w' := by
  have := gs_join b S M g id hx hu hso w h
  unfold JoinP at this
  rw [hp] at this
  exact this
theorem gs_make_at {M M' : List Gk} {g c : Int} (hp : makeM M = ((g, c), M')) {b : Nat} {S : List Nat} (w : World) (h : GS w b S M) :
    Calls Try.prog 26 #[.pointer (some ⟨b, 0, none⟩)] w fun e w' => e = .returned (.tuple #[.int .i64 g, .int .i64 c]) ∧ Chg (fun w' S' => GS w' b S' M') S w w' := by
  have := gs_make b S M w h
  unfold MakeP at this
  rw [hp] at this
  exact this
theorem gs_tear_at {M M' : List Gk} {g c : Int} {l : List Int} {n : Nat} (hp : tearG M g = ((l, c), M')) (hl : l.length = n) (hx : M.length < 10000) {b : Nat} {S : List Nat} (w : World) (h : GS w b S M) :
    Calls Try.prog 28 #[.pointer (some ⟨b, 0, none⟩), .int .i64 g] w fun e w' => ∃ (a : Option Addr) (cc : Nat), e = .returned (.tuple #[.slice a n cc, .int .i64 c]) ∧ RI w' (.slice a n cc) l ∧ Chg (fun w' S' => GS w' b S' M' ∧ Hid (∀ y, (Value.slice a n cc).ownBlock = some y → y ∉ S')) S w w' := by
  have := gs_tear b S M g hx w h
  unfold TearP at this
  rw [hp] at this
  subst hl
  exact this.mono fun e w' ⟨a, cc, h1, h2, _, h4⟩ => ⟨a, cc, h1, h2, h4⟩
theorem gs_leave_at {M M' : List Gk} {id g : Int} {ok : Bool} (hp : leaveG M id = ((g, ok), M')) (hx : M.length < 10000) (hu : OkG M) (hso : SortG M) {b : Nat} {S : List Nat} (w : World) (h : GS w b S M) :
    Calls Try.prog 35 #[.pointer (some ⟨b, 0, none⟩), .int .i64 id] w fun e w' => e = .returned (.tuple #[.int .i64 g, .bool ok]) ∧ Chg (fun w' S' => GS w' b S' M') S w w' := by
  have := gs_leave b S M id hx hu hso w h
  unfold LeaveP at this
  rw [hp] at this
  exact this
theorem ok1 {a : List Int} {t : Bool} (h : a.length < 100000) : OkG [⟨a, t⟩] := fun s hs => by simp at hs; subst hs; exact h
theorem so1 {a : List Int} {t : Bool} (h : a.Pairwise (· < ·)) : SortG [⟨a, t⟩] := fun s hs => by simp at hs; subst hs; exact h
theorem ri_two (w : World) (x y : Int) : RI (w.alloc (.cells #[.int .i64 x, .int .i64 y] 3 (0, 0))) (.slice (some ⟨w.heap.size, 0, none⟩) 2 2) [x, y] :=
  ⟨rfl, .inr ⟨w.heap.size, 2, #[.int .i64 x, .int .i64 y], rfl, Nat.zero_le _, Blk.new w _ _, Nat.le_refl _, by unfold maxLen; decide, rfl, rfl⟩⟩

set_option maxHeartbeats 3200000 in
set_option maxRecDepth 100000 in
theorem awakeG_any (w : World) : Calls Try.prog 31 #[] w fun e w' => e = .returned (.bool true) ∧ Ext [] w w' := by
  have k0 : makeM [] = ((1, 0), [⟨[], false⟩]) := by kernel_rfl
  have k1 : joinG [⟨[], false⟩] 1 7 = (0, [⟨[7], false⟩]) := by kernel_rfl
  have k2 : joinG [⟨[7], false⟩] 1 5 = (0, [⟨[5, 7], false⟩]) := by kernel_rfl
  have k3 : tearG [⟨[5, 7], false⟩] 1 = (([5, 7], 0), [⟨[], true⟩]) := by kernel_rfl
  have k4 : joinG [⟨[], true⟩] 1 8 = (13, [⟨[], true⟩]) := by kernel_rfl
  have k5 : liveG [⟨[], true⟩] 1 = false := by kernel_rfl
  have k6 : ofG [⟨[], true⟩] 7 = 0 := by kernel_rfl
  have c0 := fun b S w h => gs_make_at k0 (b := b) (S := S) w h
  have c1 := fun b S w h => gs_join_at k1 (by simp) (ok1 (by simp)) (so1 (by simp)) (b := b) (S := S) w h
  have c2 := fun b S w h => gs_join_at k2 (by simp) (ok1 (by simp)) (so1 (by simp)) (b := b) (S := S) w h
  have c3 := fun b S w h => gs_tear_at k3 (n := 2) rfl (by simp) (b := b) (S := S) w h
  have c4 := fun b S w h => gs_join_at k4 (by simp) (ok1 (by simp)) (so1 (by simp)) (b := b) (S := S) w h
  have c5 := fun b S w h => gs_live b S [⟨[], true⟩] 1 (by simp) w h
  have c6 := fun b S w h => gs_of b S [⟨[], true⟩] 7 (by simp) (ok1 (by simp)) w h
  rw [k5] at c5; rw [k6] at c6
  have ci := fun v v' w h h' => ints_any v v' [5, 7] [5, 7] (by simp) (by simp) w h h'
  rw [show decide (([5, 7] : List Int) = [5, 7]) = true from decide_eq_true rfl] at ci
  have C0 := Lib.hid c0; have C1 := Lib.hid c1; have C2 := Lib.hid c2; have C3 := Lib.hid c3; have C4 := Lib.hid c4; have C5 := Lib.hid c5; have C6 := Lib.hid c6; have CI := Lib.hid ci
  clear c0 c1 c2 c3 c4 c5 c6 ci k0 k1 k2 k3 k4 k5 k6
  go_enter Try.func31, Try.ntmps31
  go_wp2_with fail
  refine (gs_new w).mono ?_
  rintro e w1 ⟨rfl, h1, e1⟩
  have o1 := Own.start e1 (S := [w.heap.size]) (by simp)
  obtain ⟨b, hb⟩ : ∃ b, w.heap.size = b := ⟨_, rfl⟩
  rw [hb] at h1 o1
  clear e1
  go_wp2_with fail
  clear hb
  refine (C0.out b _ _ h1).mono ?_
  rintro e w2 ⟨rfl, S2, h2, e2, g2⟩
  have o2 := o1.step e2 g2
  clear o1 h1 e2 g2
  go_wp2_with fail
  refine (C1.out b _ _ h2).mono ?_
  rintro e w3 ⟨rfl, S3, h3, e3, g3⟩
  have o3 := o2.step e3 g3
  clear o2 h2 e3 g3
  go_wp2_with fail
  refine (C2.out b _ _ h3).mono ?_
  rintro e w4 ⟨rfl, S4, h4, e4, g4⟩
  have o4 := o3.step e4 g4
  clear o3 h3 e4 g4
  go_wp2_with fail
  refine (C3.out b _ _ h4).mono ?_
  rintro e w5 ⟨la, lc, rfl, hr5, S5, ⟨h5, hn5⟩, e5, g5⟩
  have o5 := o4.step e5 g5
  have hr6 := hr5.alloc (.cells #[.int .i64 5, .int .i64 7] 3 (0, 0))
  have hr7 := ri_two w5 5 7
  have x6 : Ext [] w5 (w5.alloc (.cells #[.int .i64 5, .int .i64 7] 3 (0, 0))) := (Ext.refl _ _).alloc _
  have HR6 := Lib.hid hr6; have HR7 := Lib.hid hr7; have H5 := Lib.hid h5; have O5 := Lib.hid o5; have X6 := Lib.hid x6
  clear o4 h4 e5 g5 hn5 hr5 hr6 hr7 h5 o5 x6
  go_wp2_with fail
  refine (CI.out _ _ _ HR6.out HR7.out).mono ?_
  rintro e w6 ⟨rfl, e6⟩
  have x7 := X6.out.trans e6 (by simp)
  have h7 := H5.out.keep0 x7
  have o7 := O5.out.quiet x7
  clear HR6 HR7 X6 H5 O5 e6 x7
  go_wp2_with fail
  refine (C4.out b _ _ h7).mono ?_
  rintro e w8 ⟨rfl, S8, h8, e8, g8⟩
  have o8 := o7.step e8 g8
  clear o7 h7 e8 g8
  go_wp2_with fail
  refine (C5.out b _ _ h8).mono ?_
  rintro e w9 ⟨rfl, rfl⟩
  go_wp2_with fail
  refine (C6.out b _ _ h8).mono ?_
  rintro e w9 ⟨rfl, e9⟩
  go_wp2_with fail
  go_ret
  exact ⟨rfl, (o8.quiet e9).ext⟩
end Go.Proofs.Ytlagogjnoibkcaa
