/- The wheel's Arm, by contract. -/
import Derived.Test.YtlnablnnnnkeaaaCut
import Derived.Test.YtlnablnnnnkeaaaApp
import Derived.Laws.LoneSync
namespace Go.Proofs.Ytlnablnnnnkeaaa
open Go.RowKit Go.Proofs.YtlnablnnnnkeaaaW.PrintLast
set_option linter.unusedVariables false
set_option linter.unusedSimpArgs false

set_option maxHeartbeats 400000 in
theorem add_any (b i : Nat) (x : Int) (w : World) (hc : w.cell? ⟨b, i, none⟩ = some (.int .i64 x)) (hf : w.frozen? ⟨b, i, none⟩ = false) (h0 : 0 ≤ x) (h1 : x < 4000000000000000000) :
    Calls Try.prog 23 #[.pointer (some ⟨b, i, none⟩), .int .i64 1] w fun e w' => e = .returned (.int .i64 (x + 1)) ∧ w.setCell ⟨b, i, none⟩ (.int .i64 (x + 1)) = w' := by
  have hs : (Op.intArith .add .i64 x 1).run Try.prog w = .ok (.int .i64 (x + 1)) w := by
    have : IntKind.i64.wrap (x + 1) = x + 1 := by rw [IntKind.wrap_i64]; omega
    change Result.ok (Value.int .i64 (IntKind.i64.wrap (x + 1))) w = _
    rw [this]
  have had := run_call_add (P := Try.prog) Try.func27 (by kernel_rfl) (by kernel_rfl) (by kernel_rfl) .i64 (by kernel_rfl) hc hf hs
  clear hs
  go_enter Try.func23, Try.ntmps23
  go_wp2
  go_ret
  exact ⟨rfl, rfl⟩

theorem oneC_encO (x : One) : ∀ u ∈ encO x, u.oneCell' = true := by intro u hu; simp [encO] at hu; rcases hu with rfl | rfl | rfl <;> rfl

set_option maxHeartbeats 3200000 in
theorem arm_any (b : Nat) (v : Value) (xs : List One) (most last : Int) (at_ tag : Int) (hx : xs.length < 1000) (w : World) (h : Wh w b v xs most last) (hl0 : 0 ≤ last) (hl1 : last < 4000000000000000000) :
    Calls Try.prog 10 #[.pointer (some ⟨b, 0, none⟩), .int .u64 at_, .int .i64 tag] w fun e w' =>
      (most ≤ xs.length ∧ e = .returned (.tuple #[.int .i64 0, .int .i64 10]) ∧ Wh w' b v xs most last ∧ Ext [] w w') ∨
      ((xs.length : Int) < most ∧ e = .returned (.tuple #[.int .i64 (last + 1), .int .i64 0]) ∧
        ∃ g cap, Wh w' b (.slice (some ⟨g, 0, none⟩) (xs.length + 1) cap) (upF (xs ++ [⟨at_, last + 1, tag⟩]) xs.length) most (last + 1) ∧ Ext (b :: v.ownBlock.toList) w w' ∧ (v.ownBlock = some g ∨ w.heap.size ≤ g)) := by
  have hvb : v.ownBlock ≠ some b := h.ne
  obtain ⟨a, cap, rfl⟩ := h.row.val
  have hcv : w.cell? ⟨b, 0, none⟩ = some (.slice a xs.length cap) := h.blk.cell 0
  have hcm : w.cell? ⟨b, 1, none⟩ = some (.int .i64 most) := h.blk.cell 1
  have hcl : w.cell? ⟨b, 2, none⟩ = some (.int .i64 last) := h.blk.cell 2
  have hcf : w.frozen? ⟨b, 2, none⟩ = false := h.blk.free 2
  by_cases hfull : most ≤ (xs.length : Int)
  · have d1 : decide (most ≤ (xs.length : Int)) = true := decide_eq_true hfull
    go_enter Try.func10, Try.ntmps10
    go_wp2_with fail
    go_quiet (fail)
    go_wp2_with fail
    refine bodyPost_ret (v := .tuple #[.int .i64 0, .int .i64 10]) (by simp [results, Try.results10, go_sem]) rfl ?_
    exact Or.inl ⟨hfull, rfl, ⟨h.blk, h.row⟩, (Ext.refl _ _).drewN _⟩
  · have d1 : decide (most ≤ (xs.length : Int)) = false := decide_eq_false hfull
    go_enter Try.func10, Try.ntmps10
    go_wp2_with fail
    go_quiet (fail)
    have hcl : (w.drewN nq).cell? ⟨b, 2, none⟩ = some (.int .i64 last) := hcl
    have hcf : (w.drewN nq).frozen? ⟨b, 2, none⟩ = false := hcf
    go_wp2_with fail
    refine (add_any b 2 last _ hcl hcf hl0 hl1).mono ?_
    rintro e w1 ⟨rfl, hW⟩
    have he1 : Ext [b] w w1 := by subst hW; exact Ext.setCell ((Ext.refl _ _).drewN _) (Or.inl (by simp)) _
    have hb1 : Blk w1 b #[.slice a xs.length cap, .int .i64 most, .int .i64 (last + 1)] 59 := by
      subst hW; exact Blk.set (w := w.drewN nq) (h.blk.drewN nq) 2 _
    have hr1 := h.row.keep he1 (by simp; intro g hg e; exact hvb (by rw [hg, e]))
    clear hW hcl hcf hcv hcm
    have hcv : w1.cell? ⟨b, 0, none⟩ = some (.slice a xs.length cap) := hb1.cell 0
    have hr2 : ∀ o : Obj, Rw encO 3 62 (w1.alloc o) (.slice a xs.length cap) xs := fun o => hr1.keep ((Ext.refl [] _).alloc o) (by simp)
    have hb2 : ∀ o : Obj, Blk (w1.alloc o) b #[.slice a xs.length cap, .int .i64 most, .int .i64 (last + 1)] 59 := fun o => hb1.alloc o
    have hlt := h.blk.lt
    have hlt1 := he1.size
    have hu1 : Try.prog.underlying 52 = some (.slice 62) := by kernel_rfl
    have hu2 : Try.prog.info? 62 = some Try.t62 := by kernel_rfl
    have hu3 : Try.t62.bytes = 24 := by rfl
    have hu4 : Try.t62.size = 3 := by rfl
    have hu5 : Try.t62.zero = some (.agg #[.int .u64 0, .int .i64 0, .int .i64 0]) := by rfl
    go_wp2_with (at_builtin; refine wpList_app encO_len oneC_encO rfl _ _ 52 rfl 62 Try.t62 _ 24 hu1 hu2 hu5 hu4 hu3 (by simp [Value.cells]) (by omega) (hr2 _) rfl ⟨at_, last + 1, tag⟩ _ _ rfl ?_ (by omega) (by omega) ?_)
    · exact fun j _ => new_cells w1 (encO ⟨at_, last + 1, tag⟩) _ j
    intro g cap' w2 hr3 hS hn hg
    have hgb : g ≠ b := by
      rcases hn with hn | hn
      · intro e; exact hvb (by rw [hn, e])
      · omega
    have he2 := (hS (b :: (Value.slice a xs.length cap).ownBlock.toList) (by simp +contextual))
    have he2' := hS (Value.slice a xs.length cap).ownBlock.toList (by simp +contextual)
    have hb3 := (hb2 _).keep he2' (by simpa using hvb)
    have he02 : Ext (b :: (Value.slice a xs.length cap).ownBlock.toList) w w2 := ((he1.mono (T := b :: (Value.slice a xs.length cap).ownBlock.toList) (by simp)).alloc _).trans he2 (fun _ hq => Or.inl hq)
    have hcb : w2.cell? ⟨b, 0, none⟩ = some (.slice a xs.length cap) := hb3.cell 0
    have hfb : w2.frozen? ⟨b, 0, none⟩ = false := hb3.free 0
    clear hS he2 he2' hcv
    have b1 : (0 : Int) ≤ (xs.length : Int) := by omega
    go_wp2_with fail
    generalize hW3 : World.setCell w2 ⟨b, 0, none⟩ _ = w3
    have he3 : Ext [b] w2 w3 := by subst hW3; exact Ext.setCell (Ext.refl _ _) (Or.inl (by simp)) _
    have hw3 : Wh w3 b (.slice (some ⟨g, 0, none⟩) (xs.length + 1) cap') (xs ++ [⟨at_, last + 1, tag⟩]) most (last + 1) := by
      refine ⟨?_, hr3.keep he3 (by simp [Value.ownBlock]; exact hgb)⟩
      subst hW3
      exact hb3.set 0 _
    clear hW3 hcb hfb
    refine (up_any b g (xs.length + 1) cap' _ most (last + 1) xs.length (by simp) (by simp; omega) w3 hw3).mono ?_
    rintro e w4 ⟨rfl, hw4, he4⟩
    go_wp2_with fail
    refine bodyPost_ret (v := .tuple #[.int .i64 (last + 1), .int .i64 0]) (by simp [results, Try.results10, go_sem]) rfl ?_
    refine Or.inr ⟨hfull, rfl, g, cap', hw4, (he02.trans he3 (by simp)).trans he4 ?_, ?_⟩
    · intro x hx
      rcases List.mem_singleton.1 hx with rfl
      rcases hn with hn | hn
      · exact Or.inl (by simp [hn])
      · exact Or.inr (by omega)
    · rcases hn with hn | hn
      · exact Or.inl hn
      · exact Or.inr (by omega)

set_option maxHeartbeats 1600000 in
theorem next_any (b : Nat) (v : Value) (xs : List One) (most last : Int) (w : World) (h : Wh w b v xs most last) :
    Calls Try.prog 15 #[.pointer (some ⟨b, 0, none⟩)] w fun e w' =>
      e = .returned (match xs with | [] => .tuple #[.int .u64 0, .bool false] | t :: _ => .tuple #[.int .u64 t.at_, .bool true]) ∧ Wh w' b v xs most last ∧ Ext [] w w' := by
  obtain ⟨a, cap, rfl⟩ := h.row.val
  have hcv : w.cell? ⟨b, 0, none⟩ = some (.slice a xs.length cap) := h.blk.cell 0
  rcases xs with _ | ⟨t, xs⟩
  · simp only [List.length_nil] at hcv
    go_enter Try.func15, Try.ntmps15
    go_wp2_with fail
    refine bodyPost_ret (v := .tuple #[.int .u64 0, .bool false]) (by simp [results, Try.results15, go_sem]) rfl ?_
    exact ⟨rfl, h, Ext.refl _ _⟩
  · obtain ⟨g, cap', hv, hlt, hc⟩ := h.row.form (by simp)
    injection hv with hv1 hv2 hv3
    subst hv1 hv3
    have hx0 := h.row.cell encO_len (i := 0) (x := t) rfl 0 (by omega)
    simp only [encO, Nat.add_zero, Nat.zero_mul, List.getElem?_cons_zero] at hx0
    simp only [List.length_cons] at hcv
    have b1 : ¬ (((xs.length + 1 : Nat) : Int) = 0) := by omega
    have b2 : (0 : Int) < ((xs.length + 1 : Nat) : Int) := by omega
    go_enter Try.func15, Try.ntmps15
    go_wp2_with fail
    refine bodyPost_ret (v := .tuple #[.int .u64 t.at_, .bool true]) (by simp [results, Try.results15, go_sem]) rfl ?_
    exact ⟨rfl, h, Ext.refl _ _⟩

set_option maxHeartbeats 1600000 in
theorem due_any (b : Nat) (v : Value) (xs : List One) (most last now : Int) (hx : xs.length < 1000000) (w : World) (h : Wh w b v xs most last) :
    Calls Try.prog 14 #[.pointer (some ⟨b, 0, none⟩), .int .u64 now] w fun e w' =>
      ((∀ t, xs[0]? = some t → now < t.at_) ∧ e = .returned (.tuple #[.int .i64 0, .int .i64 0, .bool false]) ∧ Wh w' b v xs most last ∧ Ext [] w w') ∨
      (∃ t v', xs[0]? = some t ∧ t.at_ ≤ now ∧ e = .returned (.tuple #[.int .i64 t.id, .int .i64 t.tag, .bool true]) ∧ Wh w' b v' (cutF xs 0) most last ∧ v'.ownBlock = v.ownBlock ∧ Ext (b :: v.ownBlock.toList) w w') := by
  obtain ⟨a, cap, rfl⟩ := h.row.val
  have hcv : w.cell? ⟨b, 0, none⟩ = some (.slice a xs.length cap) := h.blk.cell 0
  rcases xs with _ | ⟨t, xs⟩
  · simp only [List.length_nil] at hcv
    go_enter Try.func14, Try.ntmps14
    go_wp2_with fail
    refine bodyPost_ret (v := .tuple #[.int .i64 0, .int .i64 0, .bool false]) (by simp [results, Try.results14, go_sem]) rfl ?_
    exact Or.inl ⟨by simp, rfl, h, Ext.refl _ _⟩
  · obtain ⟨g, cap', hv, hlt, hc⟩ := h.row.form (by simp)
    injection hv with hv1 hv2 hv3
    subst hv1 hv3
    have hx0 := h.row.cell encO_len (i := 0) (x := t) rfl 0 (by omega)
    simp only [encO, Nat.add_zero, Nat.zero_mul, List.getElem?_cons_zero] at hx0
    simp only [List.length_cons] at hcv
    have b1 : ¬ (((xs.length + 1 : Nat) : Int) = 0) := by omega
    have b2 : (0 : Int) < ((xs.length + 1 : Nat) : Int) := by omega
    by_cases hn : now < t.at_
    · have d1 : decide (now < t.at_) = true := decide_eq_true hn
      go_enter Try.func14, Try.ntmps14
      go_wp2_with fail
      refine bodyPost_ret (v := .tuple #[.int .i64 0, .int .i64 0, .bool false]) (by simp [results, Try.results14, go_sem]) rfl ?_
      exact Or.inl ⟨rfl, h, Ext.refl _ _⟩
    · have d1 : decide (now < t.at_) = false := decide_eq_false hn
      go_enter Try.func14, Try.ntmps14
      go_wp2_with fail
      refine (cut_any b g (xs.length + 1) cap (t :: xs) most last 0 (by simp) hx t rfl w h).mono ?_
      rintro e w1 ⟨rfl, hw1, he1⟩
      go_wp2_with fail
      go_quiet (fail)
      go_wp2_with fail
      refine bodyPost_ret (v := .tuple #[.int .i64 t.id, .int .i64 t.tag, .bool true]) (by simp [results, Try.results14, go_sem]) rfl ?_
      have he : Ext [] w1 ((w1.alloc (Obj.cells #[Value.int IntKind.u64 t.at_, Value.int IntKind.i64 t.id, Value.int IntKind.i64 t.tag] 62)).drewN nq) := ((Ext.refl _ _).alloc _).drewN _
      refine Or.inr ⟨t, _, rfl, hn, rfl, hw1.keep he (by simp) (by simp), rfl, ?_⟩
      exact (he1.trans (he.mono (T := [b, g]) (by simp)) (fun _ hq => Or.inl hq)).mono (by simp [Value.ownBlock])
end Go.Proofs.Ytlnablnnnnkeaaa
