/- The document's wheel as an object: New, Arm, Cancel, Next, Due, by contract. -/
import Derived.Test.YtlnablnnnnkeaaaRefFirst
namespace Go.Proofs.Ytlnablnnnnkeaaa
open Go.RowKit Go.Proofs.YtlnablnnnnkeaaaW.PrintLast
set_option linter.unusedVariables false
set_option linter.unusedSimpArgs false

theorem encT_ok : EncOk encT 3 := ⟨encT_len, oneC_encT⟩
theorem tyT : ETy Try.prog 48 67 3 := ⟨by kernel_rfl, ⟨Try.t67, _, by kernel_rfl, by rfl, by rfl, by decide, by rfl⟩, by decide⟩
abbrev RWh (most last : Int) := Ob encT 3 67 (fun v => #[.int .i64 most, .int .i64 last, v]) 50
theorem Rf.ob {w : World} {b : Nat} {v : Value} {xs : List One} {most last : Int} (h : Rf w b v xs most last) : RWh most last w b v xs := ⟨h.blk, h.row, h.ne⟩
def RO (w : World) (b : Nat) (S : List Nat) (xs : List One) (most last : Int) : Prop := ∃ v, Rf w b v xs most last ∧ S = b :: v.ownBlock.toList
theorem RO.lt {w : World} {b : Nat} {S : List Nat} {xs : List One} {most last : Int} (h : RO w b S xs most last) : ∀ x ∈ S, x < w.heap.size := by
  obtain ⟨v, h, rfl⟩ := h
  exact h.ob.lt
theorem RO.keep {w w' : World} {b : Nat} {S T : List Nat} {xs : List One} {most last : Int} (h : RO w b S xs most last) (he : Ext T w w') (hT : ∀ x ∈ S, x ∉ T) : RO w' b S xs most last := by
  obtain ⟨v, h, rfl⟩ := h
  exact ⟨v, h.keep he (hT b (by simp)) (fun g hg => hT g (by simp [hg])), rfl⟩
theorem RO.keep0 {w w' : World} {b : Nat} {S : List Nat} {xs : List One} {most last : Int} (h : RO w b S xs most last) (he : Ext [] w w') : RO w' b S xs most last := h.keep he (by simp)
theorem RO.row {w : World} {b : Nat} {S : List Nat} {xs : List One} {most last : Int} (h : RO w b S xs most last) : ∃ a c, w.cell? ⟨b, 2, none⟩ = some (.slice a xs.length c) := by
  obtain ⟨v, h, rfl⟩ := h
  obtain ⟨a, cap, rfl⟩ := h.row.val
  exact ⟨a, cap, h.blk.cell 2⟩

theorem ro_new (m : Int) (w : World) :
    Calls Try.prog 18 #[.int .i64 m] w fun e w' => e = .returned (.pointer (some ⟨w.heap.size, 0, none⟩)) ∧ RO w' w.heap.size [w.heap.size] [] (clampM m) 0 ∧ Ext [] w w' :=
  (refNew_any m w).mono fun _ _ ⟨h1, h2, h3⟩ => ⟨h1, ⟨_, h2, rfl⟩, h3⟩
theorem ro_arm (b : Nat) (S : List Nat) (xs : List One) (most last : Int) (at_ tag : Int) (hx : xs.length < 1000) (w : World) (h : RO w b S xs most last) (hl0 : 0 ≤ last) (hl1 : last < 4000000000000000000) :
    Calls Try.prog 19 #[.pointer (some ⟨b, 0, none⟩), .int .u64 at_, .int .i64 tag] w fun e w' =>
      (most ≤ xs.length ∧ e = .returned (.tuple #[.int .i64 0, .int .i64 10]) ∧ RO w' b S xs most last ∧ Ext [] w w') ∨
      ((xs.length : Int) < most ∧ e = .returned (.tuple #[.int .i64 (last + 1), .int .i64 0]) ∧
        ∃ S', RO w' b S' (xs ++ [⟨at_, last + 1, tag⟩]) most (last + 1) ∧ Ext S w w' ∧ (∀ x ∈ S', x ∈ S ∨ w.heap.size ≤ x)) := by
  obtain ⟨v, h, rfl⟩ := h
  refine (refArm_any b v xs most last at_ tag hx w h hl0 hl1).mono ?_
  rintro e w' (⟨h1, h2, h3, h4⟩ | ⟨h1, h2, g, cap, h3, h4, h5⟩)
  · exact .inl ⟨h1, h2, ⟨v, h3, rfl⟩, h4⟩
  · refine .inr ⟨h1, h2, _, ⟨_, h3, rfl⟩, h4, ?_⟩
    intro x hx
    simp only [Value.ownBlock, Option.toList, List.mem_cons, List.mem_singleton, List.not_mem_nil, or_false] at hx
    rcases hx with rfl | rfl
    · exact .inl (by simp)
    · rcases h5 with h5 | h5
      · exact .inl (by simp [h5])
      · exact .inr h5

/-- What a cancelling tells, and what is there then. -/
def CanP (b : Nat) (S : List Nat) (xs : List One) (most last id : Int) (w : World) (e : Ending) (w' : World) : Prop :=
  ((∀ t ∈ xs, t.id ≠ id) ∧ e = .returned (.bool false) ∧ w = w') ∨
  (∃ (k : Nat) (t : One), xs[k]? = some t ∧ t.id = id ∧ e = .returned (.bool true) ∧ ∃ S', RO w' b S' (xs.eraseIdx k) most last ∧ Ext S w w' ∧ (∀ x ∈ S', x ∈ S ∨ w.heap.size ≤ x))

set_option maxHeartbeats 3200000 in
set_option maxRecDepth 100000 in
theorem ro_cancel (b : Nat) (S : List Nat) (xs : List One) (most last id : Int) (hx : xs.length < 100000) (w : World) (h : RO w b S xs most last) :
    Calls Try.prog 20 #[.pointer (some ⟨b, 0, none⟩), .int .i64 id] w (CanP b S xs most last id w) := by
  unfold CanP
  obtain ⟨v, h, rfl⟩ := h
  have h := h.ob
  obtain ⟨a, cap, rfl⟩ := h.row.val
  obtain ⟨n, hn⟩ : ∃ n, n = xs.length := ⟨_, rfl⟩
  rw [← hn] at h ⊢
  have hcv : w.cell? ⟨b, 2, none⟩ = some (.slice a n cap) := h.blk.cell 2
  have HH := Lib.hid h
  have HN := Lib.hid hn
  have hn1 : n < 100000 := by omega
  clear hn hx h
  go_enter Try.func20, Try.ntmps20
  go_wp2_with fail
  go_loop [5] (fun iv => ∃ (k : Nat), k ≤ n ∧ iv = .int .i64 k ∧ Hid (∀ (j : Nat) x, j < k → xs[j]? = some x → (x.id == id) = false)) (fun iv => n - (intOf iv).toNat)
  case atStart => exact ⟨0, Nat.zero_le _, rfl, fun j x hj => absurd hj (Nat.not_lt_zero _)⟩
  case round =>
    obtain ⟨k, hkn, rfl, hall⟩ := hrel
    by_cases hlt : k < n
    · obtain ⟨x, hxk⟩ : ∃ x, xs[k]? = some x := ⟨_, List.getElem?_eq_getElem (by rw [← HN.out]; exact hlt)⟩
      have d1 : decide (k < n) = true := decide_eq_true hlt
      obtain ⟨gb, rfl, hgl⟩ := HH.out.row.addr (by omega)
      have hx0 := HH.out.row.cell encT_ok.len hxk 0 (by omega)
      simp only [encT, Nat.add_zero, List.getElem?_cons_zero, List.getElem?_cons_succ] at hx0
      have b1 : (0 : Int) ≤ (k : Int) := by omega
      have b2 : (k : Int) < (n : Int) := by omega
      have HXK := Lib.hid hxk
      clear hxk
      cases hq : (x.id == id)
      · go_wp2_with fail
        refine ⟨⟨k + 1, by omega, rfl, ?_⟩, by simp [intOf]; omega⟩
        intro j y hj hy
        rcases Nat.lt_or_ge j k with h1 | h1
        · exact hall.out j y h1 hy
        · have : j = k := by omega
          rw [this, HXK.out] at hy
          injection hy with hy
          rw [← hy]; exact hq
      · have hcap : n ≤ cap := HH.out.row.cap_le
        have hlb := HH.out.blk.lt
        go_wp2_with fail
        have HQ := Lib.hid hq
        clear hq hall
        have hsa := HH.out.row.drew.takeSl encT_ok.len (i := k) (by omega) cap
        have hl1 : LenIs ([] : List One) (xs.take k) k := by unfold LenIs; rw [List.length_take]; have := HN.out; simp; omega
        have hl2 : LenIs (xs.take k) (xs.drop (k + 1)) (n - 1) := by unfold LenIs; rw [List.length_take, List.length_drop]; have := HN.out; omega
        have hgo : ∀ v' : Value, v' = .slice none 0 0 → ∀ g, v'.ownBlock = some g → w.heap.size ≤ g := by intro v' h g hg; subst h; simp [Value.ownBlock] at hg
        have HLB := Lib.hid hlb; have HL1 := Lib.hid hl1; have HL2 := Lib.hid hl2; have HSA := Lib.hid hsa; have HCV := Lib.hid hcv
        clear hl1 hl2 hsa hgo
        have hsb : Sl encT w.drew (.slice (if cap = k + 1 then some ⟨gb, 0, none⟩ else some ⟨gb, (k + 1) * 3, none⟩) (n - (k + 1)) (cap - (k + 1))) (xs.drop (k + 1)) := HH.out.row.drew.tailSl encT_ok.len (i := k + 1) (by omega)
        have HSB := Lib.hid hsb
        clear hsb
        have f1 : (k : Int) ≤ (cap : Int) := by omega
        have f2 : (k : Int) + 1 ≤ (n : Int) := by omega
        have f3 : (0 : Int) ≤ (k : Int) + 1 := by omega
        have f4 : ((k : Int) + 1).toNat = k + 1 := by omega
        have g63 : k ≤ 1000000 := by omega
        have g64 : n - 1 ≤ 1000000 := by omega
        have f5 : wrap64 ((k : Int) + 1) = (k : Int) + 1 := by unfold wrap64; omega
        refine start_ (n := 19) (S := fun w' => w'.cell? ⟨b, 2, none⟩ = some (.slice (some ⟨gb, 0, none⟩) n cap)) (ds := [18]) #[false, false, false, false, false, false, false, false, false, false, false, false, false, false, false, false, false, false, false] (by kernel_rfl) rfl rfl (hcv) (fun hHeld => ?_)
        refine pure_ (i := 0) (N := some 25) (v := ?_) (a' := ?_) #[true, false, false, false, false, false, false, false, false, false, false, false, false, false, false, false, false, false, false] rfl rfl (by kernel_rfl) (fun _ _ _ h => h) (Or.inl ⟨by rfl, ?_⟩) ?_ ?_
        rotate_left
        · intro w'
          go_simp
          with_reducible rfl
        rotate_left
        · (simp only [Act.put, List.setIfInBounds_toArray, i64_w, i32_w]; dsimp only [List.set_cons_zero, List.set_cons_succ])
          rfl
        refine pure_ (i := 1) (N := some 26) (v := ?_) (a' := ?_) #[true, true, false, false, false, false, false, false, false, false, false, false, false, false, false, false, false, false, false] rfl rfl (by kernel_rfl) (fun _ _ _ h => h) (Or.inl ⟨by rfl, ?_⟩) ?_ ?_
        rotate_left
        · intro w'
          go_simp
          with_reducible rfl
        rotate_left
        · (simp only [Act.put, List.setIfInBounds_toArray, i64_w, i32_w]; dsimp only [List.set_cons_zero, List.set_cons_succ])
          rfl
        refine pure_ (i := 2) (N := some 27) (v := ?_) (a' := ?_) #[true, true, true, false, false, false, false, false, false, false, false, false, false, false, false, false, false, false, false] rfl rfl (by kernel_rfl) (fun _ _ _ h => h) (Or.inl ⟨by rfl, ?_⟩) ?_ ?_
        rotate_left
        · intro w'
          go_simp
          with_reducible rfl
        rotate_left
        · (simp only [Act.put, List.setIfInBounds_toArray, i64_w, i32_w]; dsimp only [List.set_cons_zero, List.set_cons_succ])
          rfl
        refine pure_ (i := 3) (N := some 28) (v := ?_) (a' := ?_) #[true, true, true, true, false, false, false, false, false, false, false, false, false, false, false, false, false, false, false] rfl rfl (by kernel_rfl) (fun _ _ _ h => h) (Or.inl ⟨by rfl, ?_⟩) ?_ ?_
        rotate_left
        · intro w'
          go_simp
          with_reducible rfl
        rotate_left
        · (simp only [Act.put, List.setIfInBounds_toArray, i64_w, i32_w]; dsimp only [List.set_cons_zero, List.set_cons_succ])
          rfl
        refine pure_ (i := 5) (N := some 30) (v := ?_) (a' := ?_) #[true, true, true, true, false, true, false, false, false, false, false, false, false, false, false, false, false, false, false] rfl rfl (by kernel_rfl) (fun _ _ _ h => h) (Or.inl ⟨by rfl, ?_⟩) ?_ ?_
        rotate_left
        · intro w'
          go_simp
          with_reducible rfl
        rotate_left
        · (simp only [Act.put, List.setIfInBounds_toArray, i64_w, i32_w]; dsimp only [List.set_cons_zero, List.set_cons_succ])
          rfl
        refine pure_ (i := 8) (N := some 33) (v := ?_) (a' := ?_) #[true, true, true, true, false, true, false, false, true, false, false, false, false, false, false, false, false, false, false] rfl rfl (by kernel_rfl) (fun _ _ _ h => h) (Or.inl ⟨by rfl, ?_⟩) ?_ ?_
        rotate_left
        · intro w'
          go_simp
          with_reducible rfl
        rotate_left
        · (simp only [Act.put, List.setIfInBounds_toArray, i64_w, i32_w]; dsimp only [List.set_cons_zero, List.set_cons_succ])
          rfl
        refine pure_ (i := 9) (N := some 34) (v := ?_) (a' := ?_) #[true, true, true, true, false, true, false, false, true, true, false, false, false, false, false, false, false, false, false] rfl rfl (by kernel_rfl) (fun _ _ _ h => h) (Or.inl ⟨by rfl, ?_⟩) ?_ ?_
        rotate_left
        · intro w'
          go_simp
          with_reducible rfl
        rotate_left
        · (simp only [Act.put, List.setIfInBounds_toArray, i64_w, i32_w]; dsimp only [List.set_cons_zero, List.set_cons_succ])
          rfl
        refine pure_ (i := 10) (N := some 35) (v := ?_) (a' := ?_) #[true, true, true, true, false, true, false, false, true, true, true, false, false, false, false, false, false, false, false] rfl rfl (by kernel_rfl) (fun _ _ _ h => h) (Or.inl ⟨by rfl, ?_⟩) ?_ ?_
        rotate_left
        · intro w'
          go_simp
          with_reducible rfl
        rotate_left
        · (simp only [Act.put, List.setIfInBounds_toArray, i64_w, i32_w]; dsimp only [List.set_cons_zero, List.set_cons_succ])
          rfl
        refine pure_ (i := 12) (N := some 37) (v := ?_) (a' := ?_) #[true, true, true, true, false, true, false, false, true, true, true, false, true, false, false, false, false, false, false] rfl rfl (by kernel_rfl) (fun _ _ _ h => h) (Or.inl ⟨by rfl, ?_⟩) ?_ ?_
        rotate_left
        · intro w'
          go_simp
          with_reducible rfl
        rotate_left
        · (simp only [Act.put, List.setIfInBounds_toArray, i64_w, i32_w]; dsimp only [List.set_cons_zero, List.set_cons_succ])
          rfl
        refine pure_ (i := 13) (N := some 38) (v := ?_) (a' := ?_) #[true, true, true, true, false, true, false, false, true, true, true, false, true, true, false, false, false, false, false] rfl rfl (by kernel_rfl) (fun _ _ _ h => h) (Or.inl ⟨by rfl, ?_⟩) ?_ ?_
        rotate_left
        · intro w'
          go_simp
          with_reducible rfl
        rotate_left
        · (simp only [Act.put, List.setIfInBounds_toArray, i64_w, i32_w]; dsimp only [List.set_cons_zero, List.set_cons_succ])
          rfl
        refine take_ (i := 4) (N := some 29) (v := ?_) (a' := ?_) #[true, true, true, true, true, true, false, false, true, true, true, false, true, true, false, false, false, false, false] rfl rfl (by kernel_rfl) (fun _ _ _ h => h) (Or.inl ⟨by rfl, ?_⟩) hHeld ?_ ?_
        rotate_left
        · intro w' s0
          go_simp
          with_reducible rfl
        rotate_left
        · (simp only [Act.put, List.setIfInBounds_toArray, i64_w, i32_w]; dsimp only [List.set_cons_zero, List.set_cons_succ])
          rfl
        refine pure_ (i := 6) (N := some 31) (v := ?_) (a' := ?_) #[true, true, true, true, true, true, true, false, true, true, true, false, true, true, false, false, false, false, false] rfl rfl (by kernel_rfl) (fun _ _ _ h => h) (Or.inl ⟨by rfl, ?_⟩) ?_ ?_
        rotate_left
        · intro w'
          go_simp
          with_reducible rfl
        rotate_left
        · (simp only [Act.put, List.setIfInBounds_toArray, i64_w, i32_w]; dsimp only [List.set_cons_zero, List.set_cons_succ])
          rfl
        refine take_ (i := 11) (N := some 36) (v := ?_) (a' := ?_) #[true, true, true, true, true, true, true, false, true, true, true, true, true, true, false, false, false, false, false] rfl rfl (by kernel_rfl) (fun _ _ _ h => h) (Or.inl ⟨by rfl, ?_⟩) hHeld ?_ ?_
        rotate_left
        · intro w' s0
          go_simp
          with_reducible rfl
        rotate_left
        · (simp only [Act.put, List.setIfInBounds_toArray, i64_w, i32_w]; dsimp only [List.set_cons_zero, List.set_cons_succ])
          rfl
        refine pure_ (i := 14) (N := some 39) (v := ?_) (a' := ?_) #[true, true, true, true, true, true, true, false, true, true, true, true, true, true, true, false, false, false, false] rfl rfl (by kernel_rfl) (fun _ _ _ h => h) (Or.inl ⟨by rfl, ?_⟩) ?_ ?_
        rotate_left
        · intro w'
          go_simp
          with_reducible rfl
        rotate_left
        · (simp only [Act.put, List.setIfInBounds_toArray, i64_w, i32_w]; dsimp only [List.set_cons_zero, List.set_cons_succ])
          rfl
        refine one_ (i := 7) (N := some 32) #[true, true, true, true, true, true, true, true, true, true, true, true, true, true, true, false, false, false, false] rfl rfl (by kernel_rfl) (by decide) (fun K hK => ?_)
        refine step_appN tyT encT_ok (by rfl) _ _ (by rfl) (Rw.nil w.drew) (by rfl) HSA.out (by rfl) HL1.out g63 ?_
        intro a1 c1 w1 hr1 hS1 hg1
        have he1 : Ext [] w w1 := Ext.of_drew (hS1 [] (by simp [Value.ownBlock]))
        have hg1' : ∀ g, (Value.slice a1 k c1).ownBlock = some g → w.heap.size ≤ g := fun g hg => (hg1 g hg).elim (fun h => by simp [Value.ownBlock] at h) (fun h => h)
        rw [List.nil_append] at hr1
        clear hS1 hg1
        refine hK.out _ _ (((he1.cell (p := ⟨b, 2, none⟩) HLB.out (by simp)).trans HCV.out)) (fun hHeld => ?_)
        clear hK K
        refine norm_ (a' := ?_) ?_ ?_
        rotate_left
        · show Act.put _ (some 32) _ = _
          (simp only [Act.put, List.setIfInBounds_toArray, i64_w, i32_w]; dsimp only [List.set_cons_zero, List.set_cons_succ])
          rfl
        refine one_ (i := 15) (N := some 40) #[true, true, true, true, true, true, true, true, true, true, true, true, true, true, true, true, false, false, false] rfl rfl (by kernel_rfl) (by decide) (fun K hK => ?_)
        refine step_appN tyT encT_ok (by rfl) _ _ (by rfl) hr1 (by rfl) (HSB.out.keep (Ext.of_drew_left he1) (by simp)) (by rfl) HL2.out g64 ?_
        intro a2 c2 w2 hr2 hS2 hg2
        have he2 : Ext [] w w2 := fresh_app he1 hg1' hS2
        have hfz : w2.frozen? ⟨b, 2, none⟩ = false := (he2.frozen (p := ⟨b, 2, none⟩) HLB.out (by simp)).trans (HH.out.blk.free 2)
        refine hK.out _ _ (((he2.cell (p := ⟨b, 2, none⟩) HLB.out (by simp)).trans HCV.out)) (fun hHeld => ?_)
        clear hK K
        refine norm_ (a' := ?_) ?_ ?_
        rotate_left
        · show Act.put _ (some 40) _ = _
          (simp only [Act.put, List.setIfInBounds_toArray, i64_w, i32_w]; dsimp only [List.set_cons_zero, List.set_cons_succ])
          rfl
        refine pure_ (i := 16) (N := some 41) (v := ?_) (a' := ?_) #[true, true, true, true, true, true, true, true, true, true, true, true, true, true, true, true, true, false, false] rfl rfl (by kernel_rfl) (fun _ _ _ h => h) (Or.inl ⟨by rfl, ?_⟩) ?_ ?_
        rotate_left
        · intro w'
          go_simp
          with_reducible rfl
        rotate_left
        · (simp only [Act.put, List.setIfInBounds_toArray, i64_w, i32_w]; dsimp only [List.set_cons_zero, List.set_cons_succ])
          rfl
        refine pure_ (i := 17) (N := some 42) (v := ?_) (a' := ?_) #[true, true, true, true, true, true, true, true, true, true, true, true, true, true, true, true, true, true, false] rfl rfl (by kernel_rfl) (fun _ _ _ h => h) (Or.inl ⟨by rfl, ?_⟩) ?_ ?_
        rotate_left
        · intro w'
          go_simp
          with_reducible rfl
        rotate_left
        · (simp only [Act.put, List.setIfInBounds_toArray, i64_w, i32_w]; dsimp only [List.set_cons_zero, List.set_cons_succ])
          rfl
        refine last_ (i := 18) (N := none) #[true, true, true, true, true, true, true, true, true, true, true, true, true, true, true, true, true, true, true] rfl rfl (by kernel_rfl) (by decide) (fun K hK => ?_)
        refine skip_ (w1 := ?_) (by rfl) rfl ?_ ?_
        rotate_left
        · go_simp
          rfl
        refine hK.out _ _ ?_
        clear hK K
        refine done_ (by kernel_rfl) ?_
        have hfin := HH.out.replaced he2 hr2 (fun g hg => (hg2 g hg).elim (hg1' g) (fun h => Nat.le_trans he1.size h)) 2 (by simp)
        have HF := Lib.hid hfin
        clear hfin hr1 hr2 hS2 hg2 hg1' f5 f4 f1 f2 f3
        go_wp2_with fail

        all_goals
          refine bodyPost_ret (v := .bool true) (by simp [results, Try.results20, go_sem]) rfl ?_
          have hob := HF.out.1
          rw [← List.eraseIdx_eq_take_drop_succ] at hob
          exact Or.inr ⟨k, x, HXK.out, by simpa using HQ.out, rfl, _, ⟨_, ⟨hob.blk, hob.row⟩, rfl⟩, HF.out.2.1.mono (by simp), fun x hx => (HF.out.2.2 x hx).imp_left (fun h => by simpa [Value.ownBlock, eq_comm] using h)⟩
    · have d1 : decide (k < n) = false := decide_eq_false hlt
      go_wp2_with fail
      go_ret
      refine Or.inl ⟨?_, rfl, rfl⟩
      intro t ht
      obtain ⟨j, hj, rfl⟩ := List.mem_iff_getElem.1 ht
      have := hall.out j _ (by have := HN.out; omega) (List.getElem?_eq_getElem hj)
      simpa using this

/-- Of one number there is one. -/
def UnI (xs : List One) : Prop := ∀ (i j : Nat) (x y : One), xs[i]? = some x → xs[j]? = some y → x.id = y.id → i = j
def NextP (xs : List One) (w : World) (e : Ending) (w' : World) : Prop :=
  ((xs = [] ∧ e = .returned (.tuple #[.int .u64 0, .bool false])) ∨ (∃ t, t ∈ xs ∧ (∀ x ∈ xs, leO t x) ∧ e = .returned (.tuple #[.int .u64 t.at_, .bool true]))) ∧ Ext [] w w'
theorem FirstOf.all {xs : List One} {t : One} (h : ∀ (j : Nat) (x : One), j < xs.length → xs[j]? = some x → leO t x) : ∀ x ∈ xs, leO t x := fun x hx => by
  obtain ⟨j, hj, rfl⟩ := List.mem_iff_getElem.1 hx
  exact h j _ hj (List.getElem?_eq_getElem hj)

set_option maxHeartbeats 1600000 in
theorem ro_next (b : Nat) (S : List Nat) (xs : List One) (most last : Int) (hx : xs.length < 100000) (w : World) (h : RO w b S xs most last) :
    Calls Try.prog 22 #[.pointer (some ⟨b, 0, none⟩)] w (NextP xs w) := by
  unfold NextP
  obtain ⟨v, h, rfl⟩ := h
  have hf := first_any b v xs most last (by omega) w h
  have HF := Lib.hid hf
  clear hf h
  go_enter Try.func22, Try.ntmps22
  go_wp2_with fail
  refine HF.out.mono ?_
  rintro e w1 ⟨kv, rfl, hfo, h1, e1⟩
  rcases hfo with ⟨h0, rfl⟩ | ⟨k, t, hk, rfl, ht, hall⟩
  · have hnil : xs = [] := List.eq_nil_of_length_eq_zero h0
    have HN := Lib.hid hnil; have HE := Lib.hid e1
    clear h0 hnil e1 h1 HF
    go_wp2_with fail
    refine bodyPost_ret (v := .tuple #[.int .u64 0, .bool false]) (by simp [results, Try.results22, go_sem]) rfl ?_
    exact ⟨.inl ⟨HN.out, rfl⟩, HE.out⟩
  · obtain ⟨a, cap, rfl⟩ := h1.row.val
    obtain ⟨n, hn⟩ : ∃ n, n = xs.length := ⟨_, rfl⟩
    have hcv : w1.cell? ⟨b, 2, none⟩ = some (.slice a xs.length cap) := h1.blk.cell 2
    rw [← hn] at hcv
    have hrow := h1.row
    rw [← hn] at hrow hk
    obtain ⟨g, rfl, hg⟩ := hrow.addr (by omega)
    have c2 := hrow.cell encT_len ht 2 (by omega)
    simp only [encT, List.getElem?_cons_zero, List.getElem?_cons_succ] at c2
    have b1 : (0 : Int) ≤ (k : Int) := by omega
    have b2 : (k : Int) < (n : Int) := by omega
    have dk : decide ((k : Int) < 0) = false := decide_eq_false (by omega)
    have HT := Lib.hid (List.mem_of_getElem? ht); have HA := Lib.hid (FirstOf.all hall); have HE := Lib.hid e1
    clear h1 hrow hn ht hall e1 HF hk
    go_wp2_with fail
    refine bodyPost_ret (v := .tuple #[.int .u64 t.at_, .bool true]) (by simp [results, Try.results22, go_sem]) rfl ?_
    exact ⟨.inr ⟨t, HT.out, HA.out, rfl⟩, HE.out⟩

def DueP (b : Nat) (S : List Nat) (xs : List One) (most last now : Int) (w : World) (e : Ending) (w' : World) : Prop :=
  ((∀ t ∈ xs, now < t.at_) ∧ e = .returned (.tuple #[.int .i64 0, .int .i64 0, .bool false]) ∧ Ext [] w w') ∨
  (∃ (k : Nat) (t : One), xs[k]? = some t ∧ (∀ x ∈ xs, leO t x) ∧ t.at_ ≤ now ∧ e = .returned (.tuple #[.int .i64 t.id, .int .i64 t.tag, .bool true]) ∧ ∃ S', RO w' b S' (xs.eraseIdx k) most last ∧ Ext S w w' ∧ (∀ x ∈ S', x ∈ S ∨ w.heap.size ≤ x))

set_option maxHeartbeats 3200000 in
set_option maxRecDepth 100000 in
theorem ro_due (b : Nat) (S : List Nat) (xs : List One) (most last now : Int) (hx : xs.length < 100000) (hu : UnI xs) (w : World) (h : RO w b S xs most last) :
    Calls Try.prog 21 #[.pointer (some ⟨b, 0, none⟩), .int .u64 now] w (DueP b S xs most last now w) := by
  unfold DueP
  obtain ⟨v, h, rfl⟩ := h
  have hf := first_any b v xs most last (by omega) w h
  have HF := Lib.hid hf
  clear hf h
  go_enter Try.func21, Try.ntmps21
  go_wp2_with fail
  refine HF.out.mono ?_
  rintro e w1 ⟨kv, rfl, hfo, h1, e1⟩
  rcases hfo with ⟨h0, rfl⟩ | ⟨k, t, hk, rfl, ht, hall⟩
  · have hnil : xs = [] := List.eq_nil_of_length_eq_zero h0
    have HN := Lib.hid hnil; have HE := Lib.hid e1
    clear h0 hnil e1 h1 HF
    go_wp2_with fail
    refine bodyPost_ret (v := .tuple #[.int .i64 0, .int .i64 0, .bool false]) (by simp [results, Try.results21, go_sem]) rfl ?_
    exact .inl ⟨by rw [HN.out]; simp, rfl, HE.out⟩
  · have HR := Lib.hid h1
    obtain ⟨a, cap, rfl⟩ := h1.row.val
    obtain ⟨n, hn⟩ : ∃ n, n = xs.length := ⟨_, rfl⟩
    have hcv : w1.cell? ⟨b, 2, none⟩ = some (.slice a xs.length cap) := h1.blk.cell 2
    rw [← hn] at hcv
    have hrow := h1.row
    rw [← hn] at hrow hk
    obtain ⟨g, rfl, hg⟩ := hrow.addr (by omega)
    have c0 := hrow.cell encT_len ht 0 (by omega)
    have c1 := hrow.cell encT_len ht 1 (by omega)
    have c2 := hrow.cell encT_len ht 2 (by omega)
    simp only [encT, Nat.add_zero, List.getElem?_cons_zero, List.getElem?_cons_succ] at c0 c1 c2
    have b1 : (0 : Int) ≤ (k : Int) := by omega
    have b2 : (k : Int) < (n : Int) := by omega
    have dk : decide ((k : Int) < 0) = false := decide_eq_false (by omega)
    have HT := Lib.hid ht; have HA := Lib.hid (FirstOf.all hall); have HE := Lib.hid e1
    by_cases hnow : now < t.at_
    · have d2 : decide (now < t.at_) = true := decide_eq_true hnow
      have HNOW := Lib.hid hnow
      clear h1 hrow hn ht hall e1 HF hk hnow
      go_wp2_with fail
      refine bodyPost_ret (v := .tuple #[.int .i64 0, .int .i64 0, .bool false]) (by simp [results, Try.results21, go_sem]) rfl ?_
      refine .inl ⟨fun x hx => ?_, rfl, HE.out⟩
      have h3 := HA.out x hx
      rw [leO_iff] at h3
      have := HNOW.out
      omega
    · have d2 : decide (now < t.at_) = false := decide_eq_false hnow
      have HNOW : Hid (t.at_ ≤ now) := by show t.at_ ≤ now; omega
      have hB : Blk (w1.alloc (.cells (encT t).toArray 67 (0, 0))) w1.heap.size (encT t).toArray 67 := Blk.new _ _ _
      have e2 : Ext [] w1 (w1.alloc (.cells (encT t).toArray 67 (0, 0))) := (Ext.refl _ _).alloc _
      have hRO : RO w1 b (b :: (Value.slice (some ⟨g, 0, none⟩) xs.length cap).ownBlock.toList) xs most last := ⟨_, HR.out, rfl⟩
      have hRlt := hRO.lt
      have hRO2 := hRO.keep0 e2
      have hcan := ro_cancel b _ xs most last t.id hx _ hRO2
      have E2 := Lib.hid (e1.trans e2 (by simp)); have HB := Lib.hid hB; have HC := Lib.hid hcan; have HRL := Lib.hid hRlt
      clear h1 hrow hn ht hall e1 HF hk hnow hB e2 hRO hRO2 hcan hRlt
      unfold encT at HB HC E2
      go_wp2_with fail
      obtain ⟨B, hBe⟩ : ∃ B, w1.heap.size = B := ⟨_, rfl⟩
      refine HC.out.mono ?_
      rintro e w4 (⟨n1, rfl, rfl⟩ | ⟨k2, t2, g1, g2, rfl, S', g3, g4, g5⟩)
      · exact absurd rfl (n1 t (List.mem_of_getElem? HT.out))
      · have hkk : k2 = k := hu k2 k t2 t g1 HT.out g2
        subst hkk
        have hBS : w1.heap.size ∉ (b :: (Value.slice (some ⟨g, 0, none⟩) xs.length cap).ownBlock.toList) := fun hm => by have := HRL.out _ hm; omega
        have hB4 := HB.out.keep g4 hBS
        rw [hBe] at hB4
        have y0 : w4.cell? ⟨B, 0, none⟩ = some (.int .i64 t.id) := hB4.cell 0
        have y1 : w4.cell? ⟨B, 1, none⟩ = some (.int .i64 t.tag) := hB4.cell 1
        have G3 := Lib.hid g3; have G4 : Hid (Ext _ w w4 ∧ w.heap.size ≤ _) := ⟨(E2.out.mono (by simp)).trans g4 (fun _ h => .inl h), E2.out.size⟩; have G5 := Lib.hid g5
        clear g1 g2 g3 g4 g5 hB4 hBS hcv c0 c1 c2 b1 b2 dk d2 E2 HC HB HRL
        rw [hBe]
        clear hBe
        go_wp2_with fail
        go_quiet (fail)
        go_wp2_with fail
        refine bodyPost_ret (v := .tuple #[.int .i64 t.id, .int .i64 t.tag, .bool true]) (by simp [results, Try.results21, go_sem]) rfl ?_
        exact .inr ⟨_, t, HT.out, HA.out, HNOW.out, rfl, S', G3.out.keep0 ((Ext.refl [] _).drewN _), G4.out.1.trans ((Ext.refl [] _).drewN _) (by simp), fun x hx => (G5.out x hx).imp_right (fun h => Nat.le_trans G4.out.2 h)⟩
end Go.Proofs.Ytlnablnnnnkeaaa
