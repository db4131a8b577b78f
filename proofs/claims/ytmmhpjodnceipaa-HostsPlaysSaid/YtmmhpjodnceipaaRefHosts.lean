/- The document's hosts, by contract. -/
import Derived.Test.YtmmhpjodnceipaaHostsO
import Derived.Test.YtmmhpjodnceipaaWLast
import Derived.Deep.DeepCutAuto
namespace Go.Proofs.Ytmmhpjodnceipaa
open Go.RowKit Go.Proofs.YtmmhpjodnceipaaW.PrintLast
set_option linter.unusedVariables false
set_option linter.unusedSimpArgs false

theorem tyRh : ETy Try.prog 93 97 2 := ⟨by kernel_rfl, ⟨Try.t97, _, by kernel_rfl, by rfl, by rfl, by decide, by rfl⟩, by decide⟩
abbrev Rh (most : Int) := @Ob Hs encH 2 97 (fun v => #[.int .i64 most, v]) 95
abbrev RT (most : Int) := @OO Hs encH 2 97 (fun v => #[.int .i64 most, v]) 95

set_option maxHeartbeats 800000 in
theorem rt_new (m : Int) (w : World) : Calls Try.prog 32 #[.int .i64 m] w fun e w' => e = .returned (.pointer (some ⟨w.heap.size, 0, none⟩)) ∧ RT (clampH m) w' w.heap.size [w.heap.size] [] ∧ Ext [] w w' := by
  have key : ∀ most : Int, RT most (w.alloc (.cells #[.int .i64 most, .slice none 0 0] 95)) w.heap.size [w.heap.size] [] := fun most => ⟨_, ⟨Blk.new _ _ _, Rw.nil _, by simp [Value.ownBlock]⟩, rfl⟩
  have hcl : clampH m = min (max m 1) 32 := by unfold clampH; omega
  have K := Lib.hid key
  have HCL := Lib.hid hcl
  clear key hcl
  go_enter Try.func32, Try.ntmps32
  go_wp2_with fail
  go_ret
  refine ⟨rfl, ?_, (Ext.refl _ _).alloc _⟩
  rw [HCL.out]
  exact K.out _

set_option maxHeartbeats 1600000 in
theorem rat_any (most : Int) (b : Nat) (v : Value) (xs : List Hs) (key : ByteArray) (hx : xs.length < 1000000) (w : World) (h : Rh most w b v xs) :
    Calls Try.prog 51 #[.pointer (some ⟨b, 0, none⟩), .string key] w fun e w' => e = .returned (.int .i64 (idxI (hasKey key) xs)) ∧ w = w' := by
  obtain ⟨a, cap, rfl⟩ := h.row.val
  obtain ⟨n, hn⟩ : ∃ n, n = xs.length := ⟨_, rfl⟩
  rw [← hn] at h
  have hcv : w.cell? ⟨b, 1, none⟩ = some (.slice a n cap) := h.blk.cell 1
  have hr := h.row
  have HN := Lib.hid hn
  have hn1 : n < 1000000 := by omega
  clear hn hx h
  go_enter Try.func51, Try.ntmps51
  go_wp2_with fail
  go_loop [5] (fun iv => ∃ (k : Nat), k ≤ n ∧ iv = .int .i64 k ∧ Hid (∀ (j : Nat) x, j < k → xs[j]? = some x → hasKey key x = false)) (fun iv => n - (intOf iv).toNat)
  case atStart => exact ⟨0, Nat.zero_le _, rfl, fun j x hj => absurd hj (Nat.not_lt_zero _)⟩
  case round =>
    obtain ⟨k, hkn, rfl, hall⟩ := hrel
    by_cases hlt : k < n
    · obtain ⟨x, hxk⟩ : ∃ x, xs[k]? = some x := ⟨_, List.getElem?_eq_getElem (by rw [← HN.out]; exact hlt)⟩
      have d1 : decide (k < n) = true := decide_eq_true hlt
      obtain ⟨gb, rfl, hgl⟩ := hr.addr (by omega)
      have hx0 := hr.cell encH_ok.len hxk 0 (by omega)
      simp only [encH, Nat.add_zero, List.getElem?_cons_zero, List.getElem?_cons_succ] at hx0
      have b1 : (0 : Int) ≤ (k : Int) := by omega
      have b2 : (k : Int) < (n : Int) := by omega
      have hs : hasKey key x = (x.key.toList == key.toList) := (bytes_beq _ _).symm
      have HXK := Lib.hid hxk; have HSS := Lib.hid hs
      clear hr hxk hs
      cases hq : (x.key.toList == key.toList)
      · rw [hq] at HSS
        go_wp2_with fail
        refine ⟨⟨k + 1, by omega, rfl, ?_⟩, by simp [intOf]; omega⟩
        intro j y hj hy
        rcases Nat.lt_or_ge j k with h1 | h1
        · exact hall.out j y h1 hy
        · have : j = k := by omega
          rw [this, HXK.out] at hy
          injection hy with hy
          rw [← hy]; exact HSS.out
      · rw [hq] at HSS
        go_wp2_with fail
        go_ret
        exact ⟨ret_int (idxI_some HXK.out HSS.out hall.out), rfl⟩
    · have d1 : decide (k < n) = false := decide_eq_false hlt
      go_wp2_with fail
      go_ret
      exact ⟨ret_int (idxI_none (fun j x hx => hall.out j x (by have := (List.getElem?_eq_some_iff.1 hx).1; have := HN.out; omega) hx)), rfl⟩

set_option maxHeartbeats 3200000 in
set_option maxRecDepth 100000 in
theorem rout_any (most : Int) (b gb n cap k : Nat) (xs : List Hs) (hlt : k < n) (hn1 : n < 100000) (w : World) (h : Rh most w b (.slice (some ⟨gb, 0, none⟩) n cap) xs) :
    Calls Try.prog 52 #[.pointer (some ⟨b, 0, none⟩), .int .i64 k] w fun e w' => e = .returned (.tuple #[]) ∧ Chg (fun w' S' => RT most w' b S' (xs.eraseIdx k)) [b, gb] w w' := by
  rw [List.eraseIdx_eq_take_drop_succ]
  have hn := h.row.len
  have hcv : w.cell? ⟨b, 1, none⟩ = some (.slice (some ⟨gb, 0, none⟩) n cap) := h.blk.cell 1
  have hcap : n ≤ cap := h.row.cap_le
  have hlb := h.blk.lt
  have b1 : (0 : Int) ≤ (k : Int) := by omega
  have HH := Lib.hid h
  have HN := Lib.hid hn
  clear h hn
  go_enter Try.func52, Try.ntmps52
  go_wp2_with fail
  skip
  have hsa := HH.out.row.drew.takeSl encH_ok.len (i := k) (by omega) cap
  have hl1 : LenIs ([] : List Hs) (xs.take k) k := by unfold LenIs; rw [List.length_take]; have := HN.out; simp; omega
  have hl2 : LenIs (xs.take k) (xs.drop (k + 1)) (n - 1) := by unfold LenIs; rw [List.length_take, List.length_drop]; have := HN.out; omega
  have hgo : ∀ v' : Value, v' = .slice none 0 0 → ∀ g, v'.ownBlock = some g → w.heap.size ≤ g := by intro v' h g hg; subst h; simp [Value.ownBlock] at hg
  have HLB := Lib.hid hlb; have HL1 := Lib.hid hl1; have HL2 := Lib.hid hl2; have HSA := Lib.hid hsa; have HCV := Lib.hid hcv
  clear hl1 hl2 hsa hgo
  have hsb : Sl encH w.drew (.slice (if cap = k + 1 then some ⟨gb, 0, none⟩ else some ⟨gb, (k + 1) * 2, none⟩) (n - (k + 1)) (cap - (k + 1))) (xs.drop (k + 1)) := HH.out.row.drew.tailSl encH_ok.len (i := k + 1) (by omega)
  have HSB := Lib.hid hsb
  clear hsb
  have f1 : (k : Int) ≤ (cap : Int) := by omega
  have f2 : (k : Int) + 1 ≤ (n : Int) := by omega
  have f3 : (0 : Int) ≤ (k : Int) + 1 := by omega
  have f4 : ((k : Int) + 1).toNat = k + 1 := by omega
  have f5 : wrap64 ((k : Int) + 1) = (k : Int) + 1 := by unfold wrap64; omega
  refine start_ (n := 19) (S := fun w' => w'.cell? ⟨b, 1, none⟩ = some (.slice (some ⟨gb, 0, none⟩) n cap)) (ds := [18]) #[false, false, false, false, false, false, false, false, false, false, false, false, false, false, false, false, false, false, false] (by kernel_rfl) rfl rfl (hcv) (fun hHeld => ?_)
  refine pure_ (i := 0) (N := some 4) (v := ?_) (a' := ?_) #[true, false, false, false, false, false, false, false, false, false, false, false, false, false, false, false, false, false, false] rfl rfl (by kernel_rfl) (fun _ _ _ h => h) (Or.inl ⟨by rfl, ?_⟩) ?_ ?_
  rotate_left
  · intro w'
    go_simp
    with_reducible rfl
  rotate_left
  · simp only [Act.put, List.setIfInBounds_toArray, List.set_cons_zero, List.set_cons_succ, i64_w, i32_w]
    rfl
  refine pure_ (i := 1) (N := some 5) (v := ?_) (a' := ?_) #[true, true, false, false, false, false, false, false, false, false, false, false, false, false, false, false, false, false, false] rfl rfl (by kernel_rfl) (fun _ _ _ h => h) (Or.inl ⟨by rfl, ?_⟩) ?_ ?_
  rotate_left
  · intro w'
    go_simp
    with_reducible rfl
  rotate_left
  · simp only [Act.put, List.setIfInBounds_toArray, List.set_cons_zero, List.set_cons_succ, i64_w, i32_w]
    rfl
  refine pure_ (i := 2) (N := some 6) (v := ?_) (a' := ?_) #[true, true, true, false, false, false, false, false, false, false, false, false, false, false, false, false, false, false, false] rfl rfl (by kernel_rfl) (fun _ _ _ h => h) (Or.inl ⟨by rfl, ?_⟩) ?_ ?_
  rotate_left
  · intro w'
    go_simp
    with_reducible rfl
  rotate_left
  · simp only [Act.put, List.setIfInBounds_toArray, List.set_cons_zero, List.set_cons_succ, i64_w, i32_w]
    rfl
  refine pure_ (i := 3) (N := some 7) (v := ?_) (a' := ?_) #[true, true, true, true, false, false, false, false, false, false, false, false, false, false, false, false, false, false, false] rfl rfl (by kernel_rfl) (fun _ _ _ h => h) (Or.inl ⟨by rfl, ?_⟩) ?_ ?_
  rotate_left
  · intro w'
    go_simp
    with_reducible rfl
  rotate_left
  · simp only [Act.put, List.setIfInBounds_toArray, List.set_cons_zero, List.set_cons_succ, i64_w, i32_w]
    rfl
  refine pure_ (i := 5) (N := some 9) (v := ?_) (a' := ?_) #[true, true, true, true, false, true, false, false, false, false, false, false, false, false, false, false, false, false, false] rfl rfl (by kernel_rfl) (fun _ _ _ h => h) (Or.inl ⟨by rfl, ?_⟩) ?_ ?_
  rotate_left
  · intro w'
    go_simp
    with_reducible rfl
  rotate_left
  · simp only [Act.put, List.setIfInBounds_toArray, List.set_cons_zero, List.set_cons_succ, i64_w, i32_w]
    rfl
  refine pure_ (i := 8) (N := some 12) (v := ?_) (a' := ?_) #[true, true, true, true, false, true, false, false, true, false, false, false, false, false, false, false, false, false, false] rfl rfl (by kernel_rfl) (fun _ _ _ h => h) (Or.inl ⟨by rfl, ?_⟩) ?_ ?_
  rotate_left
  · intro w'
    go_simp
    with_reducible rfl
  rotate_left
  · simp only [Act.put, List.setIfInBounds_toArray, List.set_cons_zero, List.set_cons_succ, i64_w, i32_w]
    rfl
  refine pure_ (i := 9) (N := some 13) (v := ?_) (a' := ?_) #[true, true, true, true, false, true, false, false, true, true, false, false, false, false, false, false, false, false, false] rfl rfl (by kernel_rfl) (fun _ _ _ h => h) (Or.inl ⟨by rfl, ?_⟩) ?_ ?_
  rotate_left
  · intro w'
    go_simp
    with_reducible rfl
  rotate_left
  · simp only [Act.put, List.setIfInBounds_toArray, List.set_cons_zero, List.set_cons_succ, i64_w, i32_w]
    rfl
  refine pure_ (i := 10) (N := some 14) (v := ?_) (a' := ?_) #[true, true, true, true, false, true, false, false, true, true, true, false, false, false, false, false, false, false, false] rfl rfl (by kernel_rfl) (fun _ _ _ h => h) (Or.inl ⟨by rfl, ?_⟩) ?_ ?_
  rotate_left
  · intro w'
    go_simp
    with_reducible rfl
  rotate_left
  · simp only [Act.put, List.setIfInBounds_toArray, List.set_cons_zero, List.set_cons_succ, i64_w, i32_w]
    rfl
  refine pure_ (i := 12) (N := some 16) (v := ?_) (a' := ?_) #[true, true, true, true, false, true, false, false, true, true, true, false, true, false, false, false, false, false, false] rfl rfl (by kernel_rfl) (fun _ _ _ h => h) (Or.inl ⟨by rfl, ?_⟩) ?_ ?_
  rotate_left
  · intro w'
    go_simp
    with_reducible rfl
  rotate_left
  · simp only [Act.put, List.setIfInBounds_toArray, List.set_cons_zero, List.set_cons_succ, i64_w, i32_w]
    rfl
  refine pure_ (i := 13) (N := some 17) (v := ?_) (a' := ?_) #[true, true, true, true, false, true, false, false, true, true, true, false, true, true, false, false, false, false, false] rfl rfl (by kernel_rfl) (fun _ _ _ h => h) (Or.inl ⟨by rfl, ?_⟩) ?_ ?_
  rotate_left
  · intro w'
    go_simp
    with_reducible rfl
  rotate_left
  · simp only [Act.put, List.setIfInBounds_toArray, List.set_cons_zero, List.set_cons_succ, i64_w, i32_w]
    rfl
  refine take_ (i := 4) (N := some 8) (v := ?_) (a' := ?_) #[true, true, true, true, true, true, false, false, true, true, true, false, true, true, false, false, false, false, false] rfl rfl (by kernel_rfl) (fun _ _ _ h => h) (Or.inl ⟨by rfl, ?_⟩) hHeld ?_ ?_
  rotate_left
  · intro w' s0
    go_simp
    with_reducible rfl
  rotate_left
  · simp only [Act.put, List.setIfInBounds_toArray, List.set_cons_zero, List.set_cons_succ, i64_w, i32_w]
    rfl
  refine pure_ (i := 6) (N := some 10) (v := ?_) (a' := ?_) #[true, true, true, true, true, true, true, false, true, true, true, false, true, true, false, false, false, false, false] rfl rfl (by kernel_rfl) (fun _ _ _ h => h) (Or.inl ⟨by rfl, ?_⟩) ?_ ?_
  rotate_left
  · intro w'
    go_simp
    with_reducible rfl
  rotate_left
  · simp only [Act.put, List.setIfInBounds_toArray, List.set_cons_zero, List.set_cons_succ, i64_w, i32_w]
    rfl
  refine take_ (i := 11) (N := some 15) (v := ?_) (a' := ?_) #[true, true, true, true, true, true, true, false, true, true, true, true, true, true, false, false, false, false, false] rfl rfl (by kernel_rfl) (fun _ _ _ h => h) (Or.inl ⟨by rfl, ?_⟩) hHeld ?_ ?_
  rotate_left
  · intro w' s0
    go_simp
    with_reducible rfl
  rotate_left
  · simp only [Act.put, List.setIfInBounds_toArray, List.set_cons_zero, List.set_cons_succ, i64_w, i32_w]
    rfl
  refine pure_ (i := 14) (N := some 18) (v := ?_) (a' := ?_) #[true, true, true, true, true, true, true, false, true, true, true, true, true, true, true, false, false, false, false] rfl rfl (by kernel_rfl) (fun _ _ _ h => h) (Or.inl ⟨by rfl, ?_⟩) ?_ ?_
  rotate_left
  · intro w'
    go_simp
    with_reducible rfl
  rotate_left
  · simp only [Act.put, List.setIfInBounds_toArray, List.set_cons_zero, List.set_cons_succ, i64_w, i32_w]
    rfl
  refine one_ (i := 7) (N := some 11) #[true, true, true, true, true, true, true, true, true, true, true, true, true, true, true, false, false, false, false] rfl rfl (by kernel_rfl) (by decide) (fun K hK => ?_)
  refine step_appN tyRh encH_ok (by rfl) _ _ (by rfl) (Rw.nil w.drew) (by rfl) HSA.out (by rfl) HL1.out (by omega) ?_
  intro a1 c1 w1 hr1 hS1 hg1
  have he1 : Ext [] w w1 := Ext.of_drew (hS1 [] (by simp [Value.ownBlock]))
  have hg1' : ∀ g, (Value.slice a1 k c1).ownBlock = some g → w.heap.size ≤ g := fun g hg => (hg1 g hg).elim (fun h => by simp [Value.ownBlock] at h) (fun h => h)
  rw [List.nil_append] at hr1
  clear hS1 hg1
  refine hK.out _ _ (((he1.cell (p := ⟨b, 1, none⟩) HLB.out (by simp)).trans HCV.out)) (fun hHeld => ?_)
  clear hK K
  refine norm_ (a' := ?_) ?_ ?_
  rotate_left
  · show Act.put _ (some 11) _ = _
    simp only [Act.put, List.setIfInBounds_toArray, List.set_cons_zero, List.set_cons_succ, i64_w, i32_w]
    rfl
  refine one_ (i := 15) (N := some 19) #[true, true, true, true, true, true, true, true, true, true, true, true, true, true, true, true, false, false, false] rfl rfl (by kernel_rfl) (by decide) (fun K hK => ?_)
  refine step_appN tyRh encH_ok (by rfl) _ _ (by rfl) hr1 (by rfl) (HSB.out.keep (Ext.of_drew_left he1) (by simp)) (by rfl) HL2.out (by omega) ?_
  intro a2 c2 w2 hr2 hS2 hg2
  have he2 : Ext [] w w2 := fresh_app he1 hg1' hS2
  have hfz : w2.frozen? ⟨b, 1, none⟩ = false := (he2.frozen (p := ⟨b, 1, none⟩) HLB.out (by simp)).trans (HH.out.blk.free 1)
  refine hK.out _ _ (((he2.cell (p := ⟨b, 1, none⟩) HLB.out (by simp)).trans HCV.out)) (fun hHeld => ?_)
  clear hK K
  refine norm_ (a' := ?_) ?_ ?_
  rotate_left
  · show Act.put _ (some 19) _ = _
    simp only [Act.put, List.setIfInBounds_toArray, List.set_cons_zero, List.set_cons_succ, i64_w, i32_w]
    rfl
  refine pure_ (i := 16) (N := some 20) (v := ?_) (a' := ?_) #[true, true, true, true, true, true, true, true, true, true, true, true, true, true, true, true, true, false, false] rfl rfl (by kernel_rfl) (fun _ _ _ h => h) (Or.inl ⟨by rfl, ?_⟩) ?_ ?_
  rotate_left
  · intro w'
    go_simp
    with_reducible rfl
  rotate_left
  · simp only [Act.put, List.setIfInBounds_toArray, List.set_cons_zero, List.set_cons_succ, i64_w, i32_w]
    rfl
  refine pure_ (i := 17) (N := some 21) (v := ?_) (a' := ?_) #[true, true, true, true, true, true, true, true, true, true, true, true, true, true, true, true, true, true, false] rfl rfl (by kernel_rfl) (fun _ _ _ h => h) (Or.inl ⟨by rfl, ?_⟩) ?_ ?_
  rotate_left
  · intro w'
    go_simp
    with_reducible rfl
  rotate_left
  · simp only [Act.put, List.setIfInBounds_toArray, List.set_cons_zero, List.set_cons_succ, i64_w, i32_w]
    rfl
  refine last_ (i := 18) (N := none) #[true, true, true, true, true, true, true, true, true, true, true, true, true, true, true, true, true, true, true] rfl rfl (by kernel_rfl) (by decide) (fun K hK => ?_)
  refine skip_ (w1 := ?_) (by rfl) rfl ?_ ?_
  rotate_left
  · go_simp
    rfl
  refine hK.out _ _ ?_
  clear hK K
  refine done_ (by kernel_rfl) ?_
  have hfin := HH.out.replaced he2 hr2 (fun g hg => (hg2 g hg).elim (hg1' g) (fun h => Nat.le_trans he1.size h)) 1 (by simp)
  have HF := Lib.hid hfin
  clear hfin hr1 hr2 hS2 hg2 hg1' f5 f4 f1 f2 f3
  go_wp2_with fail

  all_goals
    go_end0
    exact ⟨rfl, _, ⟨_, HF.out.1, rfl⟩, HF.out.2.1.mono (by simp), HF.out.2.2⟩

set_option maxHeartbeats 800000 in
theorem rused_any (most : Int) (b : Nat) (v : Value) (xs : List Hs) (key : ByteArray) (hx : xs.length < 1000000) (w : World) (h : Rh most w b v xs) :
    Calls Try.prog 38 #[.pointer (some ⟨b, 0, none⟩), .string key] w fun e w' => e = .returned (.int .i64 (usedM xs key)) ∧ w = w' := by
  have hat := rat_any most b v xs key hx w h
  rcases idxI_spec (hasKey key) xs with ⟨h1, h2⟩ | ⟨i, x, h1, h2, h4, h3⟩
  · have hr : usedM xs key = 0 := by unfold usedM; rw [find_none h2]
    have HR := Lib.hid hr
    rw [h1] at hat
    clear h hr h1 h2
    go_enter Try.func38, Try.ntmps38
    go_wp2_with fail
    refine hat.mono ?_
    rintro e w1 ⟨rfl, rfl⟩
    go_wp2_with fail
    go_ret
    exact ⟨ret_int HR.out, rfl⟩
  · have hr : usedM xs key = x.uses := by unfold usedM; rw [find_at h1 h2 h4]
    have HR := Lib.hid hr
    obtain ⟨a, cap, rfl⟩ := h.row.val
    obtain ⟨n, hn⟩ : ∃ n, n = xs.length := ⟨_, rfl⟩
    rw [← hn] at h
    have hil : i < n := by rw [hn]; exact (List.getElem?_eq_some_iff.1 h1).1
    obtain ⟨g, rfl, hgl⟩ := h.row.addr (by omega)
    have b1 : (0 : Int) ≤ (i : Int) := by omega
    have b2 : (i : Int) < (n : Int) := by omega
    rw [h3] at hat
    have hcv : w.cell? ⟨b, 1, none⟩ = some (.slice (some ⟨g, 0, none⟩) n cap) := h.blk.cell 1
    have hx1 := h.row.cell encH_ok.len h1 1 (by omega)
    simp only [encH, Nat.add_zero, List.getElem?_cons_zero, List.getElem?_cons_succ] at hx1
    clear hr h1 h2 h3 h4 h hn
    go_enter Try.func38, Try.ntmps38
    go_wp2_with fail
    refine hat.mono ?_
    rintro e w1 ⟨rfl, rfl⟩
    clear hat
    go_wp2_with fail
    go_ret
    exact ⟨ret_int HR.out, rfl⟩

set_option maxHeartbeats 800000 in
theorem rhas_any (most : Int) (b : Nat) (v : Value) (xs : List Hs) (key : ByteArray) (hx : xs.length < 1000000) (w : World) (h : Rh most w b v xs) :
    Calls Try.prog 40 #[.pointer (some ⟨b, 0, none⟩), .string key] w fun e w' => e = .returned (.bool (xs.any (hasKey key))) ∧ w = w' := by
  have hat := rat_any most b v xs key hx w h
  rcases idxI_spec (hasKey key) xs with ⟨h1, h2⟩ | ⟨i, x, h1, h2, h4, h3⟩
  · have hr : xs.any (hasKey key) = false := by rw [List.any_eq_false]; intro x hx; simp [h2 x hx]
    have HR := Lib.hid hr
    rw [h1] at hat
    clear h hr h1 h2
    go_enter Try.func40, Try.ntmps40
    go_wp2_with fail
    refine hat.mono ?_
    rintro e w1 ⟨rfl, rfl⟩
    go_wp2_with fail
    go_ret
    exact ⟨ret_bool HR.out, rfl⟩
  · have hr : xs.any (hasKey key) = true := by rw [List.any_eq_true]; exact ⟨x, List.mem_of_getElem? h1, h2⟩
    have HR := Lib.hid hr
    have b1 : (0 : Int) ≤ (i : Int) := by omega
    rw [h3] at hat
    clear h hr h1 h2 h3
    go_enter Try.func40, Try.ntmps40
    go_wp2_with fail
    refine hat.mono ?_
    rintro e w1 ⟨rfl, rfl⟩
    go_wp2_with fail
    go_ret
    exact ⟨ret_bool HR.out, rfl⟩

set_option maxHeartbeats 1600000 in
theorem rfree_any (most : Int) (b : Nat) (v : Value) (xs : List Hs) (key : ByteArray) (hx : xs.length < 1000000) (w : World) (h : Rh most w b v xs) (hok : HsOk xs) :
    Calls Try.prog 33 #[.pointer (some ⟨b, 0, none⟩), .string key] w fun e w' => e = .returned (.int .i64 (freeM xs key).1) ∧ Rh most w' b v (freeM xs key).2 ∧ Ext (b :: v.ownBlock.toList) w w' := by
  have hat := rat_any most b v xs key hx w h
  rcases idxI_spec (hasKey key) xs with ⟨h1, h2⟩ | ⟨i, x, h1, h2, h4, h3⟩
  · have hr : freeM xs key = (11, xs) := by unfold freeM; rw [findIdx_none h2]
    rw [hr]
    rw [h1] at hat
    have HH := Lib.hid h
    clear h hr h1 h2 hok
    go_enter Try.func33, Try.ntmps33
    go_wp2_with fail
    refine hat.mono ?_
    rintro e w1 ⟨rfl, rfl⟩
    go_wp2_with fail
    go_ret
    exact ⟨rfl, HH.out, Ext.refl _ _⟩
  · have hr : freeM xs key = if x.uses = 0 then (12, xs) else (0, xs.set i ⟨x.key, x.uses - 1⟩) := by unfold freeM; rw [findIdx_at h1 h2 h4]; simp only [h1]
    obtain ⟨u0, u6⟩ := hok x (List.mem_of_getElem? h1)
    obtain ⟨a, cap, rfl⟩ := h.row.val
    obtain ⟨n, hn⟩ : ∃ n, n = xs.length := ⟨_, rfl⟩
    rw [← hn] at h ⊢
    have hil : i < n := by rw [hn]; exact (List.getElem?_eq_some_iff.1 h1).1
    obtain ⟨g, rfl, hgl⟩ := h.row.addr (by omega)
    have b1 : (0 : Int) ≤ (i : Int) := by omega
    have b2 : (i : Int) < (n : Int) := by omega
    rw [h3] at hat
    have hcv : w.cell? ⟨b, 1, none⟩ = some (.slice (some ⟨g, 0, none⟩) n cap) := h.blk.cell 1
    have hx1 := h.row.cell encH_ok.len h1 1 (by omega)
    have hxf := h.row.free (i * 2 + 1)
    simp only [encH, Nat.add_zero, List.getElem?_cons_zero, List.getElem?_cons_succ] at hx1
    have HH := Lib.hid h
    have H1 := Lib.hid h1
    have HN := Lib.hid hn
    have hgb : g ≠ b := fun e => h.ne (by rw [e]; rfl)
    clear h1 h2 h3 h4 h hn hok
    by_cases hu : x.uses = 0
    · rw [if_pos hu] at hr
      rw [hr]
      have hq : x.uses < 1 := by omega
      clear hu hr u0 u6
      go_enter Try.func33, Try.ntmps33
      go_wp2_with fail
      refine hat.mono ?_
      rintro e w1 ⟨rfl, rfl⟩
      clear hat
      go_wp2_with fail
      go_ret
      exact ⟨rfl, HH.out, Ext.refl _ _⟩
    · rw [if_neg hu] at hr
      rw [hr]
      have u1 : 1 ≤ x.uses := by omega
      clear hu hr u0
      go_enter Try.func33, Try.ntmps33
      go_wp2_with fail
      refine hat.mono ?_
      rintro e w1 ⟨rfl, rfl⟩
      clear hat
      go_wp2_with fail
      go_ret
      refine ⟨rfl, ?_, ?_⟩
      · have e2 : Ext [g] w (w.setCell ⟨g, i * 2 + 1, none⟩ (.int .i64 (x.uses - 1))) := Ext.setCell (Ext.refl _ _) (Or.inl (by simp)) _
        refine ⟨HH.out.blk_at rfl e2, ?_, HH.out.ne⟩
        exact HH.out.row.put1 encH_ok.len (by omega) H1.out _ ⟨x.key, x.uses - 1⟩ rfl
      · exact (Ext.refl _ _).setCell (Or.inl (by simp [Value.ownBlock])) _

set_option maxHeartbeats 3200000 in
theorem rkeys_any (most : Int) (b : Nat) (v : Value) (xs : List Hs) (hx : xs.length < 100000) (w : World) (h : Rh most w b v xs) :
    Calls Try.prog 37 #[.pointer (some ⟨b, 0, none⟩)] w (KeysP (xs.map keyOf) w) := by
  obtain ⟨a, cap, rfl⟩ := h.row.val
  obtain ⟨n, hn⟩ : ∃ n, n = xs.length := ⟨_, rfl⟩
  rw [← hn] at h
  obtain ⟨ks, hks⟩ : ∃ ks, ks = xs.map keyOf := ⟨_, rfl⟩
  rw [← hks]
  have hkl : ks.length = n := by rw [hks, List.length_map, hn]
  have HN := Lib.hid hn; have HKS := Lib.hid hks; have HKL := Lib.hid hkl; have HH := Lib.hid h
  have hn1 : n < 100000 := by omega
  clear hn hx h hks hkl
  go_enter Try.func37, Try.ntmps37
  go_wp2_with fail
  go_loopw [3, 4] (fun ov iv wr => ∃ (k : Nat) (a2 : Option Addr) (c2 : Nat), k ≤ n ∧ iv = .int .i64 k ∧ ov = .slice a2 k c2 ∧ Rw encS 1 9 wr (.slice a2 k c2) (ks.take k) ∧ Ext [] w wr ∧ Hid (∀ g, (Value.slice a2 k c2).ownBlock = some g → w.heap.size ≤ g)) (fun _ iv _ => n - (intOf iv).toNat)
  case atStart => exact ⟨0, none, 0, Nat.zero_le _, rfl, rfl, Rw.nil _, Ext.refl _ _, fun g hg => by simp [Value.ownBlock] at hg⟩
  case round =>
    obtain ⟨k, a2, c2, hkn, rfl, rfl, hr2, her, hfr⟩ := hrel
    have hk0 := HH.out.keep her (by simp)
    have hcv : wr.cell? ⟨b, 1, none⟩ = some (.slice a n cap) := hk0.blk.cell 1
    have HR := Lib.hid hk0.row
    clear hk0
    by_cases hlt : k < n
    · obtain ⟨x, hxk⟩ : ∃ x, xs[k]? = some x := ⟨_, List.getElem?_eq_getElem (by rw [← HN.out]; exact hlt)⟩
      have d1 : decide (k < n) = true := decide_eq_true hlt
      obtain ⟨gb, rfl, hgl⟩ := HR.out.addr (by omega)
      have hx0 := HR.out.cell encH_ok.len hxk 0 (by omega)
      simp only [encH, Nat.add_zero, List.getElem?_cons_zero, List.getElem?_cons_succ] at hx0
      have b1 : (0 : Int) ≤ (k : Int) := by omega
      have b2 : (k : Int) < (n : Int) := by omega
      have h63 : k + 1 ≤ 1000000 := by omega
      have hmap : ks.take (k + 1) = ks.take k ++ [x.key] := by rw [List.take_add_one, HKS.out, List.getElem?_map, hxk]; rfl
      have hlen : LenIs (ks.take k) [x.key] (k + 1) := by unfold LenIs; have := hr2.len; rw [← this]; rfl
      have hsl := Sl.new (enc := encS) wr x.key 9
      have hrw := hr2.alloc (.cells (encS x.key).toArray 9 (0, 0))
      have HMAP := Lib.hid hmap
      clear hxk hr2 hmap
      go_wp2_with (at_builtin; refine wpList_appN tyS encS_ok (by rfl) _ _ (by rfl) hrw (by rfl) hsl (by rfl) hlen h63 ?_)
      intro a5 c5 w5 hr5 hS5 hg5
      have e5 : Ext [] w w5 := fresh_app (v1 := .slice a2 k c2) (her.alloc _) hfr.out hS5
      have hg6 : Hid (∀ g, (Value.slice a5 (k + 1) c5).ownBlock = some g → w.heap.size ≤ g) := fun g hg => (hg5 g hg).elim (hfr.out g) (fun h => by have := her.size; omega)
      rw [← HMAP.out] at hr5
      clear hS5 hg5 hfr hlen hsl hrw
      go_wp2_with fail
      exact ⟨⟨k + 1, a5, c5, by omega, rfl, rfl, hr5, e5, hg6⟩, by simp [intOf]; omega⟩
    · have d1 : decide (k < n) = false := decide_eq_false hlt
      obtain rfl : k = n := by omega
      go_wp2_with fail
      go_ret
      rw [List.take_of_length_le (by rw [HKL.out]; exact Nat.le_refl _)] at hr2
      have he : ∀ m, m = k → Ending.returned (.slice a2 k c2) = .returned (.slice a2 m c2) := by intro m h; rw [h]
      exact ⟨a2, c2, he _ HKL.out, by rw [HKL.out]; exact hr2, her, by rw [HKL.out]; exact hfr.out⟩
end Go.Proofs.Ytmmhpjodnceipaa
