/- The document's wheel: New and Arm, by contract. -/
import Derived.Test.YtlnablnnnnkeaaaAwake
namespace Go.Proofs.Ytlnablnnnnkeaaa
open Go.RowKit Go.Proofs.YtlnablnnnnkeaaaW.PrintLast
set_option linter.unusedVariables false
set_option linter.unusedSimpArgs false

def encT (o : One) : List Value := [.int .i64 o.id, .int .i64 o.tag, .int .u64 o.at_]
theorem encT_len (o : One) : (encT o).length = 3 := rfl
theorem oneC_encT (x : One) : ∀ u ∈ encT x, u.oneCell' = true := by intro u hu; simp [encT] at hu; rcases hu with rfl | rfl | rfl <;> rfl

/-- The document's wheel at b: what it holds, in its order. -/
structure Rf (w : World) (b : Nat) (v : Value) (xs : List One) (most last : Int) : Prop where
  blk : Blk w b #[.int .i64 most, .int .i64 last, v] 50
  row : Rw encT 3 67 w v xs

theorem Rf.ne {w : World} {b : Nat} {v : Value} {xs : List One} {most last : Int} (h : Rf w b v xs most last) : v.ownBlock ≠ some b := h.row.ne_blk h.blk (by decide)

theorem Rf.keep {S : List Nat} {w w' : World} {b : Nat} {v : Value} {xs : List One} {most last : Int} (h : Rf w b v xs most last) (he : Ext S w w') (hb : b ∉ S) (hv : ∀ g, v.ownBlock = some g → g ∉ S) : Rf w' b v xs most last :=
  ⟨h.blk.keep he hb, h.row.keep he hv⟩

set_option maxHeartbeats 400000 in
theorem refNew_any (m : Int) (w : World) :
    Calls Try.prog 18 #[.int .i64 m] w fun e w' => e = .returned (.pointer (some ⟨w.heap.size, 0, none⟩)) ∧ Rf w' w.heap.size (.slice none 0 0) [] (clampM m) 0 ∧ Ext [] w w' := by
  have key : ∀ most : Int, Rf (w.alloc (.cells #[.int .i64 most, .int .i64 0, .slice none 0 0] 50)) w.heap.size (.slice none 0 0) [] most 0 := fun most => ⟨Blk.new _ _ _, Rw.nil _⟩
  have K := Lib.hid key
  clear key
  go_enter Try.func18, Try.ntmps18
  go_wp2
  all_goals
    go_ret
    refine ⟨rfl, ?_, (Ext.refl _ _).alloc _⟩
    first
      | (have e : clampM m = min (max m 1) 256 := by (unfold clampM; omega)
         rw [e]; exact K.out _)
      | (have e : clampM m = 256 := by (unfold clampM; omega)
         rw [e]; exact K.out _)
      | (have e : clampM m = 1 := by (unfold clampM; omega)
         rw [e]; exact K.out _)
      | (have e : clampM m = m := by (unfold clampM; omega)
         rw [e]; exact K.out _)

set_option maxHeartbeats 3200000 in
theorem refArm_any (b : Nat) (v : Value) (xs : List One) (most last : Int) (at_ tag : Int) (hx : xs.length < 1000) (w : World) (h : Rf w b v xs most last) (hl0 : 0 ≤ last) (hl1 : last < 4000000000000000000) :
    Calls Try.prog 19 #[.pointer (some ⟨b, 0, none⟩), .int .u64 at_, .int .i64 tag] w fun e w' =>
      (most ≤ xs.length ∧ e = .returned (.tuple #[.int .i64 0, .int .i64 10]) ∧ Rf w' b v xs most last ∧ Ext [] w w') ∨
      ((xs.length : Int) < most ∧ e = .returned (.tuple #[.int .i64 (last + 1), .int .i64 0]) ∧
        ∃ g cap, Rf w' b (.slice (some ⟨g, 0, none⟩) (xs.length + 1) cap) (xs ++ [⟨at_, last + 1, tag⟩]) most (last + 1) ∧ Ext (b :: v.ownBlock.toList) w w' ∧ (v.ownBlock = some g ∨ w.heap.size ≤ g)) := by
  have hvb : v.ownBlock ≠ some b := h.ne
  obtain ⟨a, cap, rfl⟩ := h.row.val
  have hcv : w.cell? ⟨b, 2, none⟩ = some (.slice a xs.length cap) := h.blk.cell 2
  have hcm : w.cell? ⟨b, 0, none⟩ = some (.int .i64 most) := h.blk.cell 0
  have hcl : w.cell? ⟨b, 1, none⟩ = some (.int .i64 last) := h.blk.cell 1
  have hcf : w.frozen? ⟨b, 1, none⟩ = false := h.blk.free 1
  by_cases hfull : most ≤ (xs.length : Int)
  · have d1 : decide (most ≤ (xs.length : Int)) = true := decide_eq_true hfull
    go_enter Try.func19, Try.ntmps19
    go_wp2_with fail
    go_quiet (fail)
    go_wp2_with fail
    refine bodyPost_ret (v := .tuple #[.int .i64 0, .int .i64 10]) (by simp [results, Try.results19, go_sem]) rfl ?_
    exact Or.inl ⟨hfull, rfl, ⟨h.blk, h.row⟩, (Ext.refl _ _).drewN _⟩
  · have d1 : decide (most ≤ (xs.length : Int)) = false := decide_eq_false hfull
    go_enter Try.func19, Try.ntmps19
    go_wp2_with fail
    go_quiet (fail)
    have hcl : (w.drewN nq).cell? ⟨b, 1, none⟩ = some (.int .i64 last) := hcl
    have hcf : (w.drewN nq).frozen? ⟨b, 1, none⟩ = false := hcf
    go_wp2_with fail
    generalize hW : World.setCell (w.drewN nq) ⟨b, 1, none⟩ _ = w1
    have he1 : Ext [b] w w1 := by subst hW; exact Ext.setCell ((Ext.refl _ _).drewN _) (Or.inl (by simp)) _
    have hb1 : Blk w1 b #[.int .i64 most, .int .i64 (last + 1), .slice a xs.length cap] 50 := by
      subst hW; exact Blk.set (w := w.drewN nq) (h.blk.drewN nq) 1 _
    have hr1 := h.row.keep he1 (by simp; intro g hg e; exact hvb (by rw [hg, e]))
    clear hW hcl hcf hcv hcm
    have hcv : w1.cell? ⟨b, 2, none⟩ = some (.slice a xs.length cap) := hb1.cell 2
    have hcl : w1.cell? ⟨b, 1, none⟩ = some (.int .i64 (last + 1)) := hb1.cell 1
    have hr2 : ∀ o : Obj, Rw encT 3 67 (w1.drew.alloc o) (.slice a xs.length cap) xs := fun o => hr1.keep (((Ext.refl [] _).drew).alloc o) (by simp)
    have hb2 : ∀ o : Obj, Blk (w1.drew.alloc o) b #[.int .i64 most, .int .i64 (last + 1), .slice a xs.length cap] 50 := fun o => hb1.drew.alloc o
    have hlt := h.blk.lt
    have hlt1 := he1.size
    have hu1 : Try.prog.underlying 48 = some (.slice 67) := by kernel_rfl
    have hu2 : Try.prog.info? 67 = some Try.t67 := by kernel_rfl
    have hu3 : Try.t67.bytes = 24 := by rfl
    have hu4 : Try.t67.size = 3 := by rfl
    have hu5 : Try.t67.zero = some (.agg #[.int .i64 0, .int .i64 0, .int .u64 0]) := by rfl
    have h63 : xs.length < 1000000 := by omega
    have HX := Lib.hid hx
    have HF := Lib.hid hfull
    clear hx
    refine start_ (n := 17) (S := fun w' => w'.cell? ⟨b, 2, none⟩ = some (.slice a xs.length cap) ∧ w'.cell? ⟨b, 1, none⟩ = some (.int .i64 (last + 1))) (ds := [16]) #[false, false, false, false, false, false, false, false, false, false, false, false, false, false, false, false, false] (by kernel_rfl) rfl rfl ⟨hcv, hcl⟩ (fun hHeld => ?_)
    refine pure_ (i := 0) (N := some 25) (v := ?_) (a' := ?_) #[true, false, false, false, false, false, false, false, false, false, false, false, false, false, false, false, false] rfl rfl (by kernel_rfl) (fun _ _ _ h => h) (Or.inl ⟨by rfl, ?_⟩) ?_ ?_
    rotate_left
    · intro w'
      go_simp
      with_reducible rfl
    rotate_left
    · (simp only [Act.put, List.setIfInBounds_toArray, i64_w, i32_w]; dsimp only [List.set_cons_zero, List.set_cons_succ])
      rfl
    refine pure_ (i := 1) (N := some 26) (v := ?_) (a' := ?_) #[true, true, false, false, false, false, false, false, false, false, false, false, false, false, false, false, false] rfl rfl (by kernel_rfl) (fun _ _ _ h => h) (Or.inl ⟨by rfl, ?_⟩) ?_ ?_
    rotate_left
    · intro w'
      go_simp
      with_reducible rfl
    rotate_left
    · (simp only [Act.put, List.setIfInBounds_toArray, i64_w, i32_w]; dsimp only [List.set_cons_zero, List.set_cons_succ])
      rfl
    refine pure_ (i := 2) (N := some 27) (v := ?_) (a' := ?_) #[true, true, true, false, false, false, false, false, false, false, false, false, false, false, false, false, false] rfl rfl (by kernel_rfl) (fun _ _ _ h => h) (Or.inl ⟨by rfl, ?_⟩) ?_ ?_
    rotate_left
    · intro w'
      go_simp
      with_reducible rfl
    rotate_left
    · (simp only [Act.put, List.setIfInBounds_toArray, i64_w, i32_w]; dsimp only [List.set_cons_zero, List.set_cons_succ])
      rfl
    refine pure_ (i := 3) (N := some 28) (v := ?_) (a' := ?_) #[true, true, true, true, false, false, false, false, false, false, false, false, false, false, false, false, false] rfl rfl (by kernel_rfl) (fun _ _ _ h => h) (Or.inl ⟨by rfl, ?_⟩) ?_ ?_
    rotate_left
    · intro w'
      go_simp
      with_reducible rfl
    rotate_left
    · (simp only [Act.put, List.setIfInBounds_toArray, i64_w, i32_w]; dsimp only [List.set_cons_zero, List.set_cons_succ])
      rfl
    refine pure_ (i := 5) (N := some 30) (v := ?_) (a' := ?_) #[true, true, true, true, false, true, false, false, false, false, false, false, false, false, false, false, false] rfl rfl (by kernel_rfl) (fun _ _ _ h => h) (Or.inl ⟨by rfl, ?_⟩) ?_ ?_
    rotate_left
    · intro w'
      go_simp
      with_reducible rfl
    rotate_left
    · (simp only [Act.put, List.setIfInBounds_toArray, i64_w, i32_w]; dsimp only [List.set_cons_zero, List.set_cons_succ])
      rfl
    refine pure_ (i := 6) (N := some 31) (v := ?_) (a' := ?_) #[true, true, true, true, false, true, true, false, false, false, false, false, false, false, false, false, false] rfl rfl (by kernel_rfl) (fun _ _ _ h => h) (Or.inl ⟨by rfl, ?_⟩) ?_ ?_
    rotate_left
    · intro w'
      go_simp
      with_reducible rfl
    rotate_left
    · (simp only [Act.put, List.setIfInBounds_toArray, i64_w, i32_w]; dsimp only [List.set_cons_zero, List.set_cons_succ])
      rfl
    refine pure_ (i := 7) (N := some 32) (v := ?_) (a' := ?_) #[true, true, true, true, false, true, true, true, false, false, false, false, false, false, false, false, false] rfl rfl (by kernel_rfl) (fun _ _ _ h => h) (Or.inl ⟨by rfl, ?_⟩) ?_ ?_
    rotate_left
    · intro w'
      go_simp
      with_reducible rfl
    rotate_left
    · (simp only [Act.put, List.setIfInBounds_toArray, i64_w, i32_w]; dsimp only [List.set_cons_zero, List.set_cons_succ])
      rfl
    refine pure_ (i := 9) (N := some 34) (v := ?_) (a' := ?_) #[true, true, true, true, false, true, true, true, false, true, false, false, false, false, false, false, false] rfl rfl (by kernel_rfl) (fun _ _ _ h => h) (Or.inl ⟨by rfl, ?_⟩) ?_ ?_
    rotate_left
    · intro w'
      go_simp
      with_reducible rfl
    rotate_left
    · (simp only [Act.put, List.setIfInBounds_toArray, i64_w, i32_w]; dsimp only [List.set_cons_zero, List.set_cons_succ])
      rfl
    refine pure_ (i := 10) (N := some 35) (v := ?_) (a' := ?_) #[true, true, true, true, false, true, true, true, false, true, true, false, false, false, false, false, false] rfl rfl (by kernel_rfl) (fun _ _ _ h => h) (Or.inl ⟨by rfl, ?_⟩) ?_ ?_
    rotate_left
    · intro w'
      go_simp
      with_reducible rfl
    rotate_left
    · (simp only [Act.put, List.setIfInBounds_toArray, i64_w, i32_w]; dsimp only [List.set_cons_zero, List.set_cons_succ])
      rfl
    refine take_ (i := 4) (N := some 29) (v := ?_) (a' := ?_) #[true, true, true, true, true, true, true, true, false, true, true, false, false, false, false, false, false] rfl rfl (by kernel_rfl) (fun _ _ _ h => h) (Or.inl ⟨by rfl, ?_⟩) hHeld ?_ ?_
    rotate_left
    · rintro w' ⟨s0, s1⟩
      go_simp
      with_reducible rfl
    rotate_left
    · (simp only [Act.put, List.setIfInBounds_toArray, i64_w, i32_w]; dsimp only [List.set_cons_zero, List.set_cons_succ])
      rfl
    refine take_ (i := 8) (N := some 33) (v := ?_) (a' := ?_) #[true, true, true, true, true, true, true, true, true, true, true, false, false, false, false, false, false] rfl rfl (by kernel_rfl) (fun _ _ _ h => h) (Or.inl ⟨by rfl, ?_⟩) hHeld ?_ ?_
    rotate_left
    · rintro w' ⟨s0, s1⟩
      go_simp
      with_reducible rfl
    rotate_left
    · (simp only [Act.put, List.setIfInBounds_toArray, i64_w, i32_w]; dsimp only [List.set_cons_zero, List.set_cons_succ])
      rfl
    refine pure_ (i := 11) (N := some 36) (v := ?_) (a' := ?_) #[true, true, true, true, true, true, true, true, true, true, true, true, false, false, false, false, false] rfl rfl (by kernel_rfl) (fun _ _ _ h => h) (Or.inl ⟨by rfl, ?_⟩) ?_ ?_
    rotate_left
    · intro w'
      go_simp
      with_reducible rfl
    rotate_left
    · (simp only [Act.put, List.setIfInBounds_toArray, i64_w, i32_w]; dsimp only [List.set_cons_zero, List.set_cons_succ])
      rfl
    refine one_ (i := 12) (N := some 37) #[true, true, true, true, true, true, true, true, true, true, true, true, true, false, false, false, false] rfl rfl (by kernel_rfl) (by decide) (fun K hK => ?_)
    refine value_ (w1 := ?_) (v := ?_) (by rfl) rfl ?_ ?_
    rotate_left 2
    · go_simp
      constructor
      · rfl
      · rfl
    refine hK.out _ _ ⟨((hb2 _).cell 2), ((hb2 _).cell 1)⟩ (fun hHeld => ?_)
    clear hK K
    refine norm_ (a' := ?_) ?_ ?_
    rotate_left
    · show Act.put _ (some 37) _ = _
      (simp only [Act.put, List.setIfInBounds_toArray, i64_w, i32_w]; dsimp only [List.set_cons_zero, List.set_cons_succ])
      rfl
    refine one_ (i := 13) (N := some 38) #[true, true, true, true, true, true, true, true, true, true, true, true, true, true, false, false, false] rfl rfl (by kernel_rfl) (by decide) (fun K hK => ?_)
    refine step_app encT_len oneC_encT rfl _ _ 48 rfl 67 Try.t67 _ 24 hu1 hu2 hu5 hu4 hu3 (by simp [Value.cells]) (by omega) (hr2 _) rfl ⟨at_, last + 1, tag⟩ _ _ rfl (fun j _ => new_cells w1.drew (encT ⟨at_, last + 1, tag⟩) _ j) h63 (by omega) ?_
    intro g cap' w2 hr3 hS hn hg
    have hb3 := (hb2 _).keep (hS (Value.slice a xs.length cap).ownBlock.toList (by simp +contextual)) (by simpa using hvb)
    have hfz : w2.frozen? ⟨b, 2, none⟩ = false := hb3.free 2
    refine hK.out _ _ ⟨(hb3.cell 2), (hb3.cell 1)⟩ (fun hHeld => ?_)
    clear hK K
    refine norm_ (a' := ?_) ?_ ?_
    rotate_left
    · show Act.put _ (some 38) _ = _
      (simp only [Act.put, List.setIfInBounds_toArray, i64_w, i32_w]; dsimp only [List.set_cons_zero, List.set_cons_succ])
      rfl
    refine pure_ (i := 14) (N := some 39) (v := ?_) (a' := ?_) #[true, true, true, true, true, true, true, true, true, true, true, true, true, true, true, false, false] rfl rfl (by kernel_rfl) (fun _ _ _ h => h) (Or.inl ⟨by rfl, ?_⟩) ?_ ?_
    rotate_left
    · intro w'
      go_simp
      with_reducible rfl
    rotate_left
    · (simp only [Act.put, List.setIfInBounds_toArray, i64_w, i32_w]; dsimp only [List.set_cons_zero, List.set_cons_succ])
      rfl
    refine pure_ (i := 15) (N := some 40) (v := ?_) (a' := ?_) #[true, true, true, true, true, true, true, true, true, true, true, true, true, true, true, true, false] rfl rfl (by kernel_rfl) (fun _ _ _ h => h) (Or.inl ⟨by rfl, ?_⟩) ?_ ?_
    rotate_left
    · intro w'
      go_simp
      with_reducible rfl
    rotate_left
    · (simp only [Act.put, List.setIfInBounds_toArray, i64_w, i32_w]; dsimp only [List.set_cons_zero, List.set_cons_succ])
      rfl
    refine last_ (i := 16) (N := none) #[true, true, true, true, true, true, true, true, true, true, true, true, true, true, true, true, true] rfl rfl (by kernel_rfl) (by decide) (fun K hK => ?_)
    refine skip_ (w1 := ?_) (by rfl) rfl ?_ ?_
    rotate_left
    · go_simp
      rfl
    refine hK.out _ _ ?_
    clear hK K
    refine done_ (by kernel_rfl) ?_
    generalize hW3 : World.setCell w2 ⟨b, 2, none⟩ _ = w3
    have hgb : g ≠ b := by
      rcases hn with hn | hn
      · intro e; exact hvb (by rw [hn, e])
      · have : w1.heap.size + 1 = g := by simpa using hn.symm
        omega
    have he3 : Ext [b] w2 w3 := by subst hW3; exact Ext.setCell (Ext.refl _ _) (Or.inl (by simp)) _
    have hb4 : Blk w3 b #[.int .i64 most, .int .i64 (last + 1), .slice (some ⟨g, 0, none⟩) (xs.length + 1) cap'] 50 := by
      subst hW3; exact hb3.set 2 _
    have hr4 := hr3.keep he3 (by simp [Value.ownBlock]; exact hgb)
    have he2 := hS (b :: (Value.slice a xs.length cap).ownBlock.toList) (by simp +contextual)
    have he12 : Ext (b :: (Value.slice a xs.length cap).ownBlock.toList) w (w1.drew.alloc (Obj.cells (encT ⟨at_, last + 1, tag⟩).toArray 67)) := ((he1.mono (T := b :: (Value.slice a xs.length cap).ownBlock.toList) (by simp)).drew).alloc _
    have he03 : Ext (b :: (Value.slice a xs.length cap).ownBlock.toList) w w3 := (he12.trans he2 (fun _ hq => Or.inl hq)).trans he3 (by simp)
    have hn' : (Value.slice a xs.length cap).ownBlock = some g ∨ w.heap.size ≤ g := by
      rcases hn with hn | hn
      · exact .inl hn
      · have : w1.heap.size + 1 = g := by simpa using hn.symm
        exact .inr (by omega)
    have hcl : w3.cell? ⟨b, 1, none⟩ = some (.int .i64 (last + 1)) := hb4.cell 1
    clear hS he2 he12 hn hW3
    go_wp2_with fail
    refine bodyPost_ret (v := .tuple #[.int .i64 (last + 1), .int .i64 0]) (by simp [results, Try.results19, go_sem]) rfl ?_
    exact Or.inr ⟨HF.out, rfl, g, cap', ⟨hb4, hr4⟩, he03, hn'⟩
end Go.Proofs.Ytlnablnnnnkeaaa
