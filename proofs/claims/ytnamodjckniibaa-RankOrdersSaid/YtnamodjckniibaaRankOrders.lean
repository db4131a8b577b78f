/- The law RankOrders as a walk: who goes first is an order. -/
import Derived.Test.YtnamodjckniibaaRankLaws
namespace Go.Proofs.Ytnamodjckniibaa
open Go.RowKit Go.Proofs.Ytnamodjckniibaa.PRankAll Go.Proofs.Ytnamodjckniibaa.RankPure Go.Proofs.YtnamodjckniibaaW.PrintLast
set_option linter.unusedSimpArgs false
set_option linter.unusedVariables false

def At5 (w : World) (b : Nat) (x : It) : Prop :=
  w.cell? ⟨b, 0, none⟩ = some (.int .i64 x.id) ∧ w.cell? ⟨b, 1, none⟩ = some (.int .i64 x.cls) ∧ w.cell? ⟨b, 2, none⟩ = some (.int .u64 x.since) ∧ w.cell? ⟨b, 3, none⟩ = some (.string x.key) ∧ w.cell? ⟨b, 4, none⟩ = some (.int .i64 x.pre)

theorem At5.below {w w' : World} {b : Nat} {x : It} (h : At5 w b x) (hb : Below w.heap.size w w') (hl : b < w.heap.size) : At5 w' b x := by
  obtain ⟨h0, h1, h2, h3, h4⟩ := h
  exact ⟨(hb.cell (p := ⟨b, 0, none⟩) hl).trans h0, (hb.cell (p := ⟨b, 1, none⟩) hl).trans h1, (hb.cell (p := ⟨b, 2, none⟩) hl).trans h2, (hb.cell (p := ⟨b, 3, none⟩) hl).trans h3, (hb.cell (p := ⟨b, 4, none⟩) hl).trans h4⟩

/-- Three items lie in the blocks from b on, and there are more than that. -/
def Three (w : World) (b : Nat) (x y z : It) : Prop := At5 w b x ∧ At5 w (b + 1) y ∧ At5 w (b + 2) z ∧ b + 2 < w.heap.size

theorem Three.below {w w' : World} {b : Nat} {x y z : It} (h : Three w b x y z) (hb : Below w.heap.size w w') : Three w' b x y z :=
  ⟨h.1.below hb (by have := h.2.2.2; omega), h.2.1.below hb (by have := h.2.2.2; omega), h.2.2.1.below hb (by have := h.2.2.2; omega), by have := h.2.2.2; have := hb.size; omega⟩

theorem less_at (x y : It) (now g : Int) (sx : U x.since) (sy : U y.since) (sn : U now) (w : World) :
    Calls Try.prog 24 #[.agg #[.int .i64 x.id, .int .i64 x.cls, .int .u64 x.since, .string x.key, .int .i64 x.pre], .agg #[.int .i64 y.id, .int .i64 y.cls, .int .u64 y.since, .string y.key, .int .i64 y.pre], .int .u64 now, .int .u64 g] w
      fun e w' => e = .returned (.bool (ls x.id x.cls x.since y.id y.cls y.since now g)) ∧ Below w.heap.size w w' :=
  rank_Less.calls _ _ _ _ _ _ _ _ _ _ _ _ _ w (less_eq _ _ _ _ _ _ _ _ _ _ _ _ sx sy sn)

set_option maxHeartbeats 4000000 in
theorem rankOrders_main (x y z : It) (now g : Int) (sx : U x.since) (sy : U y.since) (sz : U z.since) (sn : U now) (w : World) :
    Calls Try.prog 9 #[x.val, y.val, z.val, .int .u64 now, .int .u64 g] w fun e w' => e = .returned (.bool true) ∧ Below w.heap.size w w' := by
  have hT := Lib.hid (ls_total x.id x.cls x.since y.id y.cls y.since now g)
  have hR := Lib.hid (ls_trans x.id x.cls x.since y.id y.cls y.since z.id z.cls z.since now g)
  have hI := Lib.hid (ls_irr x.id x.cls x.since now g)
  unfold It.val
  go_enter Try.func9, Try.ntmps9
  go_wp2_with fail
  generalize hW : World.alloc (World.alloc (World.alloc w _) _) _ = w1
  have t1 : Three w1 w.heap.size x y z ∧ Below w.heap.size w w1 := by
    subst hW
    refine ⟨⟨⟨?_, ?_, ?_, ?_, ?_⟩, ⟨?_, ?_, ?_, ?_, ?_⟩, ⟨?_, ?_, ?_, ?_, ?_⟩, by simp⟩, (((Below.refl _ _).alloc (Nat.le_refl _) _).alloc (by simp) _).alloc (by simp <;> omega) _⟩ <;> simp [go_sem, World.cell?_alloc_past]
  clear hW
  obtain ⟨t1, hb1⟩ := t1
  obtain ⟨⟨f0, f1, f2, f3, f4⟩, ⟨f5, f6, f7, f8, f9⟩, ⟨f10, f11, f12, f13, f14⟩, hsz⟩ := id t1
  have t1d : Three w1.drew w.heap.size x y z := t1
  have T1 := Lib.hid t1d
  clear t1 t1d
  refine start_ (n := 18) (S := fun w' => w'.cell? ⟨w.heap.size, 0, none⟩ = some (.int .i64 x.id) ∧ w'.cell? ⟨w.heap.size, 1, none⟩ = some (.int .i64 x.cls) ∧ w'.cell? ⟨w.heap.size, 2, none⟩ = some (.int .u64 x.since) ∧ w'.cell? ⟨w.heap.size, 3, none⟩ = some (.string x.key) ∧ w'.cell? ⟨w.heap.size, 4, none⟩ = some (.int .i64 x.pre) ∧ w'.cell? ⟨w.heap.size + 1, 0, none⟩ = some (.int .i64 y.id) ∧ w'.cell? ⟨w.heap.size + 1, 1, none⟩ = some (.int .i64 y.cls) ∧ w'.cell? ⟨w.heap.size + 1, 2, none⟩ = some (.int .u64 y.since) ∧ w'.cell? ⟨w.heap.size + 1, 3, none⟩ = some (.string y.key) ∧ w'.cell? ⟨w.heap.size + 1, 4, none⟩ = some (.int .i64 y.pre) ∧ w'.cell? ⟨w.heap.size + 2, 0, none⟩ = some (.int .i64 z.id) ∧ w'.cell? ⟨w.heap.size + 2, 1, none⟩ = some (.int .i64 z.cls) ∧ w'.cell? ⟨w.heap.size + 2, 2, none⟩ = some (.int .u64 z.since) ∧ w'.cell? ⟨w.heap.size + 2, 3, none⟩ = some (.string z.key) ∧ w'.cell? ⟨w.heap.size + 2, 4, none⟩ = some (.int .i64 z.pre)) (ds := []) #[false, false, false, false, false, false, false, false, false, false, false, false, false, false, false, false, false, false] (by kernel_rfl) rfl rfl ⟨f0, f1, f2, f3, f4, f5, f6, f7, f8, f9, f10, f11, f12, f13, f14⟩ (fun hHeld => ?_)
  refine pure_ (i := 2) (N := some 16) (v := ?_) (a' := ?_) #[false, false, true, false, false, false, false, false, false, false, false, false, false, false, false, false, false, false] rfl rfl (by kernel_rfl) (fun _ _ _ h => h) (Or.inl ⟨by rfl, ?_⟩) ?_ ?_
  rotate_left
  · intro w'
    go_simp
    with_reducible rfl
  rotate_left
  · simp only [Act.put, List.setIfInBounds_toArray, List.set_cons_zero, List.set_cons_succ, i64_w, i32_w]
    rfl
  refine pure_ (i := 3) (N := some 17) (v := ?_) (a' := ?_) #[false, false, true, true, false, false, false, false, false, false, false, false, false, false, false, false, false, false] rfl rfl (by kernel_rfl) (fun _ _ _ h => h) (Or.inl ⟨by rfl, ?_⟩) ?_ ?_
  rotate_left
  · intro w'
    go_simp
    with_reducible rfl
  rotate_left
  · simp only [Act.put, List.setIfInBounds_toArray, List.set_cons_zero, List.set_cons_succ, i64_w, i32_w]
    rfl
  refine pure_ (i := 7) (N := some 21) (v := ?_) (a' := ?_) #[false, false, true, true, false, false, false, true, false, false, false, false, false, false, false, false, false, false] rfl rfl (by kernel_rfl) (fun _ _ _ h => h) (Or.inl ⟨by rfl, ?_⟩) ?_ ?_
  rotate_left
  · intro w'
    go_simp
    with_reducible rfl
  rotate_left
  · simp only [Act.put, List.setIfInBounds_toArray, List.set_cons_zero, List.set_cons_succ, i64_w, i32_w]
    rfl
  refine pure_ (i := 8) (N := some 22) (v := ?_) (a' := ?_) #[false, false, true, true, false, false, false, true, true, false, false, false, false, false, false, false, false, false] rfl rfl (by kernel_rfl) (fun _ _ _ h => h) (Or.inl ⟨by rfl, ?_⟩) ?_ ?_
  rotate_left
  · intro w'
    go_simp
    with_reducible rfl
  rotate_left
  · simp only [Act.put, List.setIfInBounds_toArray, List.set_cons_zero, List.set_cons_succ, i64_w, i32_w]
    rfl
  refine pure_ (i := 12) (N := some 26) (v := ?_) (a' := ?_) #[false, false, true, true, false, false, false, true, true, false, false, false, true, false, false, false, false, false] rfl rfl (by kernel_rfl) (fun _ _ _ h => h) (Or.inl ⟨by rfl, ?_⟩) ?_ ?_
  rotate_left
  · intro w'
    go_simp
    with_reducible rfl
  rotate_left
  · simp only [Act.put, List.setIfInBounds_toArray, List.set_cons_zero, List.set_cons_succ, i64_w, i32_w]
    rfl
  refine pure_ (i := 13) (N := some 27) (v := ?_) (a' := ?_) #[false, false, true, true, false, false, false, true, true, false, false, false, true, true, false, false, false, false] rfl rfl (by kernel_rfl) (fun _ _ _ h => h) (Or.inl ⟨by rfl, ?_⟩) ?_ ?_
  rotate_left
  · intro w'
    go_simp
    with_reducible rfl
  rotate_left
  · simp only [Act.put, List.setIfInBounds_toArray, List.set_cons_zero, List.set_cons_succ, i64_w, i32_w]
    rfl
  refine take_ (i := 0) (N := some 14) (v := ?_) (a' := ?_) #[true, false, true, true, false, false, false, true, true, false, false, false, true, true, false, false, false, false] rfl rfl (by kernel_rfl) (fun _ _ _ h => h) (Or.inl ⟨by rfl, ?_⟩) hHeld ?_ ?_
  rotate_left
  · rintro w' ⟨s0, s1, s2, s3, s4, s5, s6, s7, s8, s9, s10, s11, s12, s13, s14⟩
    go_simp
    with_reducible rfl
  rotate_left
  · simp only [Act.put, List.setIfInBounds_toArray, List.set_cons_zero, List.set_cons_succ, i64_w, i32_w]
    rfl
  refine take_ (i := 1) (N := some 15) (v := ?_) (a' := ?_) #[true, true, true, true, false, false, false, true, true, false, false, false, true, true, false, false, false, false] rfl rfl (by kernel_rfl) (fun _ _ _ h => h) (Or.inl ⟨by rfl, ?_⟩) hHeld ?_ ?_
  rotate_left
  · rintro w' ⟨s0, s1, s2, s3, s4, s5, s6, s7, s8, s9, s10, s11, s12, s13, s14⟩
    go_simp
    with_reducible rfl
  rotate_left
  · simp only [Act.put, List.setIfInBounds_toArray, List.set_cons_zero, List.set_cons_succ, i64_w, i32_w]
    rfl
  refine take_ (i := 5) (N := some 19) (v := ?_) (a' := ?_) #[true, true, true, true, false, true, false, true, true, false, false, false, true, true, false, false, false, false] rfl rfl (by kernel_rfl) (fun _ _ _ h => h) (Or.inl ⟨by rfl, ?_⟩) hHeld ?_ ?_
  rotate_left
  · rintro w' ⟨s0, s1, s2, s3, s4, s5, s6, s7, s8, s9, s10, s11, s12, s13, s14⟩
    go_simp
    with_reducible rfl
  rotate_left
  · simp only [Act.put, List.setIfInBounds_toArray, List.set_cons_zero, List.set_cons_succ, i64_w, i32_w]
    rfl
  refine take_ (i := 6) (N := some 20) (v := ?_) (a' := ?_) #[true, true, true, true, false, true, true, true, true, false, false, false, true, true, false, false, false, false] rfl rfl (by kernel_rfl) (fun _ _ _ h => h) (Or.inl ⟨by rfl, ?_⟩) hHeld ?_ ?_
  rotate_left
  · rintro w' ⟨s0, s1, s2, s3, s4, s5, s6, s7, s8, s9, s10, s11, s12, s13, s14⟩
    go_simp
    with_reducible rfl
  rotate_left
  · simp only [Act.put, List.setIfInBounds_toArray, List.set_cons_zero, List.set_cons_succ, i64_w, i32_w]
    rfl
  refine take_ (i := 10) (N := some 24) (v := ?_) (a' := ?_) #[true, true, true, true, false, true, true, true, true, false, true, false, true, true, false, false, false, false] rfl rfl (by kernel_rfl) (fun _ _ _ h => h) (Or.inl ⟨by rfl, ?_⟩) hHeld ?_ ?_
  rotate_left
  · rintro w' ⟨s0, s1, s2, s3, s4, s5, s6, s7, s8, s9, s10, s11, s12, s13, s14⟩
    go_simp
    with_reducible rfl
  rotate_left
  · simp only [Act.put, List.setIfInBounds_toArray, List.set_cons_zero, List.set_cons_succ, i64_w, i32_w]
    rfl
  refine take_ (i := 11) (N := some 25) (v := ?_) (a' := ?_) #[true, true, true, true, false, true, true, true, true, false, true, true, true, true, false, false, false, false] rfl rfl (by kernel_rfl) (fun _ _ _ h => h) (Or.inl ⟨by rfl, ?_⟩) hHeld ?_ ?_
  rotate_left
  · rintro w' ⟨s0, s1, s2, s3, s4, s5, s6, s7, s8, s9, s10, s11, s12, s13, s14⟩
    go_simp
    with_reducible rfl
  rotate_left
  · simp only [Act.put, List.setIfInBounds_toArray, List.set_cons_zero, List.set_cons_succ, i64_w, i32_w]
    rfl
  refine one_ (i := 4) (N := some 18) #[true, true, true, true, true, true, true, true, true, false, true, true, true, true, false, false, false, false] rfl rfl (by kernel_rfl) (by decide) (fun K hK => ?_)
  refine goes_ Try.func24 (by kernel_rfl) rfl #[.agg #[.int .i64 x.id, .int .i64 x.cls, .int .u64 x.since, .string x.key, .int .i64 x.pre], .agg #[.int .i64 y.id, .int .i64 y.cls, .int .u64 y.since, .string y.key, .int .i64 y.pre], .int .u64 now, .int .u64 g] (by rfl) rfl rfl (by simp only [List.map_toArray, List.map_cons, List.map_nil]; rfl) ?_
  with_reducible refine (less_at x y now g sx sy sn _).mono ?_
  rintro e w2 ⟨rfl, hb2⟩
  refine ⟨_, rfl, ?_⟩
  have t2 := (T1.out).below hb2
  have T2 := Lib.hid t2
  obtain ⟨⟨q0, q1, q2, q3, q4⟩, ⟨q5, q6, q7, q8, q9⟩, ⟨q10, q11, q12, q13, q14⟩, _⟩ := t2
  refine hK.out _ _ ⟨q0, q1, q2, q3, q4, q5, q6, q7, q8, q9, q10, q11, q12, q13, q14⟩ (fun hHeld => ?_)
  clear hK K
  refine norm_ (a' := ?_) ?_ ?_
  rotate_left
  · show Act.put _ (some 18) _ = _
    simp only [Act.put, List.setIfInBounds_toArray, List.set_cons_zero, List.set_cons_succ, i64_w, i32_w]
    rfl
  refine one_ (i := 9) (N := some 23) #[true, true, true, true, true, true, true, true, true, true, true, true, true, true, false, false, false, false] rfl rfl (by kernel_rfl) (by decide) (fun K hK => ?_)
  refine goes_ Try.func24 (by kernel_rfl) rfl #[.agg #[.int .i64 y.id, .int .i64 y.cls, .int .u64 y.since, .string y.key, .int .i64 y.pre], .agg #[.int .i64 z.id, .int .i64 z.cls, .int .u64 z.since, .string z.key, .int .i64 z.pre], .int .u64 now, .int .u64 g] (by rfl) rfl rfl (by simp only [List.map_toArray, List.map_cons, List.map_nil]; rfl) ?_
  with_reducible refine (less_at y z now g sy sz sn _).mono ?_
  rintro e w3 ⟨rfl, hb3⟩
  refine ⟨_, rfl, ?_⟩
  have t3 := (T2.out).below hb3
  have T3 := Lib.hid t3
  obtain ⟨⟨q0, q1, q2, q3, q4⟩, ⟨q5, q6, q7, q8, q9⟩, ⟨q10, q11, q12, q13, q14⟩, _⟩ := t3
  refine hK.out _ _ ⟨q0, q1, q2, q3, q4, q5, q6, q7, q8, q9, q10, q11, q12, q13, q14⟩ (fun hHeld => ?_)
  clear hK K
  refine norm_ (a' := ?_) ?_ ?_
  rotate_left
  · show Act.put _ (some 23) _ = _
    simp only [Act.put, List.setIfInBounds_toArray, List.set_cons_zero, List.set_cons_succ, i64_w, i32_w]
    rfl
  refine one_ (i := 14) (N := some 28) #[true, true, true, true, true, true, true, true, true, true, true, true, true, true, true, false, false, false] rfl rfl (by kernel_rfl) (by decide) (fun K hK => ?_)
  refine goes_ Try.func24 (by kernel_rfl) rfl #[.agg #[.int .i64 x.id, .int .i64 x.cls, .int .u64 x.since, .string x.key, .int .i64 x.pre], .agg #[.int .i64 z.id, .int .i64 z.cls, .int .u64 z.since, .string z.key, .int .i64 z.pre], .int .u64 now, .int .u64 g] (by rfl) rfl rfl (by simp only [List.map_toArray, List.map_cons, List.map_nil]; rfl) ?_
  with_reducible refine (less_at x z now g sx sz sn _).mono ?_
  rintro e w4 ⟨rfl, hb4⟩
  refine ⟨_, rfl, ?_⟩
  have t4 := (T3.out).below hb4
  have T4 := Lib.hid t4
  obtain ⟨⟨q0, q1, q2, q3, q4⟩, ⟨q5, q6, q7, q8, q9⟩, ⟨q10, q11, q12, q13, q14⟩, _⟩ := t4
  refine hK.out _ _ ⟨q0, q1, q2, q3, q4, q5, q6, q7, q8, q9, q10, q11, q12, q13, q14⟩ (fun hHeld => ?_)
  clear hK K
  refine norm_ (a' := ?_) ?_ ?_
  rotate_left
  · show Act.put _ (some 28) _ = _
    simp only [Act.put, List.setIfInBounds_toArray, List.set_cons_zero, List.set_cons_succ, i64_w, i32_w]
    rfl
  refine pure_ (i := 15) (N := some 11) (v := ?_) (a' := ?_) #[true, true, true, true, true, true, true, true, true, true, true, true, true, true, true, true, false, false] rfl rfl (by kernel_rfl) (fun _ _ _ h => h) (Or.inl ⟨by rfl, ?_⟩) ?_ ?_
  rotate_left
  · intro w'
    go_simp
    with_reducible rfl
  rotate_left
  · simp only [Act.put, List.setIfInBounds_toArray, List.set_cons_zero, List.set_cons_succ, i64_w, i32_w]
    rfl
  refine pure_ (i := 16) (N := some 12) (v := ?_) (a' := ?_) #[true, true, true, true, true, true, true, true, true, true, true, true, true, true, true, true, true, false] rfl rfl (by kernel_rfl) (fun _ _ _ h => h) (Or.inl ⟨by rfl, ?_⟩) ?_ ?_
  rotate_left
  · intro w'
    go_simp
    with_reducible rfl
  rotate_left
  · simp only [Act.put, List.setIfInBounds_toArray, List.set_cons_zero, List.set_cons_succ, i64_w, i32_w]
    rfl
  refine pure_ (i := 17) (N := some 13) (v := ?_) (a' := ?_) #[true, true, true, true, true, true, true, true, true, true, true, true, true, true, true, true, true, true] rfl rfl (by kernel_rfl) (fun _ _ _ h => h) (Or.inl ⟨by rfl, ?_⟩) ?_ ?_
  rotate_left
  · intro w'
    go_simp
    with_reducible rfl
  rotate_left
  · simp only [Act.put, List.setIfInBounds_toArray, List.set_cons_zero, List.set_cons_succ, i64_w, i32_w]
    rfl
  refine done_ (by kernel_rfl) ?_
  have hB4 : Below w.heap.size w w4 := hb1.trans (((show Below w1.heap.size w1 w2 from ⟨hb2.os, hb2.tape, hb2.output, hb2.size, hb2.block⟩).trans (hb3.mono hb2.size) |>.trans (hb4.mono (Nat.le_trans hb2.size hb3.size))).mono hb1.size)
  clear hHeld
  have t4 := T4.out
  clear hb1 hb2 hb3 hb4 f0 f1 f2 f3 f4 f5 f6 f7 f8 f9 f10 f11 f12 f13 f14 hsz T1 T2 T3
  obtain ⟨⟨f0, f1, f2, f3, f4⟩, ⟨f5, f6, f7, f8, f9⟩, ⟨f10, f11, f12, f13, f14⟩, hsz⟩ := t4
  generalize hX : ls x.id x.cls x.since y.id y.cls y.since now g = X at *
  generalize hY : ls y.id y.cls y.since z.id z.cls z.since now g = Y at *
  generalize hZ : ls x.id x.cls x.since z.id z.cls z.since now g = Z at *
  have HX := Lib.hid hX
  clear hX hY hZ
  go_wp2_with fail
  refine (less_at x x now g sx sx sn _).mono ?_
  rw [hI.out]
  rintro e w5 ⟨rfl, hb5⟩
  have t5 := (T4.out).below hb5
  have hB5 : Below w.heap.size w w5 := hB4.trans (hb5.mono hB4.size)
  have T5 := Lib.hid t5
  clear t5 T4 hB4 hb5 f0 f1 f2 f3 f4 f5 f6 f7 f8 f9 f10 f11 f12 f13 f14 hsz
  have t5 := T5.out
  obtain ⟨⟨f0, f1, f2, f3, f4⟩, ⟨f5, f6, f7, f8, f9⟩, ⟨f10, f11, f12, f13, f14⟩, hsz⟩ := t5
  by_cases hid : x.id = y.id
  · have hq : (x.id == y.id) = true := by simp [hid]
    clear hid
    cases X <;> cases Y <;> cases Z
    all_goals first
      | exact absurd (hR.out rfl rfl) Bool.false_ne_true
      | (go_wp2_with fail
         refine (rawake _).mono ?_
         rintro e w6 ⟨rfl, hb6⟩
         go_wp2
         go_ret
         exact ⟨rfl, hB5.trans (hb6.mono hB5.size)⟩)
  · have hq : (x.id == y.id) = false := by simp [hid]
    have HT := Lib.hid (hT.out hid)
    clear hid
    cases X <;> cases Y <;> cases Z
    all_goals first
      | exact absurd (hR.out rfl rfl) Bool.false_ne_true
      | (go_wp2_with fail
         refine (less_at y x now g sy sx sn _).mono ?_
         rw [HT.out]
         simp only [Bool.not_true, Bool.not_false]
         rintro e w6 ⟨rfl, hb6⟩
         have hB6 : Below w.heap.size w w6 := hB5.trans (hb6.mono hB5.size)
         go_wp2_with fail
         refine (rawake _).mono ?_
         rintro e w7 ⟨rfl, hb7⟩
         go_wp2
         go_ret
         exact ⟨rfl, hB6.trans (hb7.mono hB6.size)⟩)

theorem rankOrders_walk (w : World) (x : It) (hx : (Lit.int .u64 x.since).wf = true) (y : It) (hy : (Lit.int .u64 y.since).wf = true) (z : It) (hz : (Lit.int .u64 z.since).wf = true)
    (now : Int) (hn : (Lit.int .u64 now).wf = true) (g : Int) (_hg : (Lit.int .u64 g).wf = true) :
    Calls Try.prog 9 #[x.val, y.val, z.val, .int .u64 now, .int .u64 g] w fun e w' => e = .returned (.bool true) ∧ Ext [] w w' :=
  (rankOrders_main x y z now g (u64_of_wf hx) (u64_of_wf hy) (u64_of_wf hz) (u64_of_wf hn) w).mono fun e w' ⟨he, hb⟩ => ⟨he, Ext.of_below hb⟩
end Go.Proofs.Ytnamodjckniibaa
