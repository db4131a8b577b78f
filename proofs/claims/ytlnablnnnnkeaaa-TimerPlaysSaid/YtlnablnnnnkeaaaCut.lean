/- The wheel's cut, by contract. -/
import Derived.Test.YtlnablnnnnkeaaaWheel
namespace Go.Proofs.Ytlnablnnnnkeaaa
open Go.RowKit Go.Proofs.YtlnablnnnnkeaaaW.PrintLast
set_option linter.unusedVariables false
set_option linter.unusedSimpArgs false

theorem upF_len (xs : List One) (i : Nat) : (upF xs i).length = xs.length := by
  induction i using Nat.strongRecOn generalizing xs with
  | ind i ih =>
    rw [upF]
    split
    · rfl
    · split
      · split
        · rw [ih _ (by omega)]; simp
        · rfl
      · rfl

theorem downF_len (n : Nat) : ∀ (xs : List One) (i : Nat), xs.length - i ≤ n → (downF xs i).length = xs.length := by
  induction n with
  | zero =>
    intro xs i h
    rw [downF, dif_neg (by omega)]
  | succ n ih =>
    intro xs i h
    rw [downF]
    split
    · rename_i hk
      split
      · rw [ih _ _ (by simp; omega)]; simp
      · rfl
    · rfl

/-- The timer at a place is taken out. -/
def cutF (xs : List One) (i : Nat) : List One :=
  match xs[xs.length - 1]? with
  | some z => if i < xs.length - 1 then upF (downF ((xs.set i z).take (xs.length - 1)) i) i else (xs.set i z).take (xs.length - 1)
  | none => xs

set_option maxHeartbeats 6400000 in
theorem cut_any (b g n cap : Nat) (xs : List One) (most last : Int) (i : Nat) (hi : i < xs.length) (hx : xs.length < 1000000) (t : One) (ht : xs[i]? = some t) (w : World) (h : Wh w b (.slice (some ⟨g, 0, none⟩) n cap) xs most last) :
    Calls Try.prog 25 #[.pointer (some ⟨b, 0, none⟩), .int .i64 i] w fun e w' => e = .returned (.agg #[.int .u64 t.at_, .int .i64 t.id, .int .i64 t.tag]) ∧ Wh w' b (.slice (some ⟨g, 0, none⟩) (xs.length - 1) cap) (cutF xs i) most last ∧ Ext [b, g] w w' := by
  have hgb : g ≠ b := fun e => h.ne (by rw [e]; rfl)
  have hln : n = xs.length := by
    obtain ⟨a, c, hv⟩ := h.row.val
    injection hv
  have hcap : xs.length ≤ cap := by
    obtain ⟨g', cap', hv', _, hcap⟩ := h.row.form (by omega)
    injection hv' with _ _ h3
    omega
  obtain ⟨m, hm⟩ : ∃ m, xs.length = m + 1 := ⟨xs.length - 1, by omega⟩
  have hcutF : ∀ z, xs[m]? = some z → cutF xs i = if i < m then upF (downF ((xs.set i z).take m) i) i else (xs.set i z).take m := by
    intro z hz
    unfold cutF
    rw [hm, Nat.add_sub_cancel, hz]
  have hbl : b < w.heap.size := h.blk.lt
  have hgl : g < w.heap.size := h.row.lt g rfl
  obtain rfl : n = m + 1 := by omega
  have e1 : ((m + 1 : Nat) : Int) = (m : Int) + 1 := by omega
  have b1 : (i : Int) < (m : Int) + 1 := by omega
  have b2 : (0 : Int) ≤ (i : Int) := by omega
  have hcb : w.cell? ⟨b, 0, none⟩ = some (.slice (some ⟨g, 0, none⟩) (m + 1) cap) := h.blk.cell 0
  have hx0 := h.row.cell encO_len ht 0 (by omega); have hx1 := h.row.cell encO_len ht 1 (by omega); have hx2 := h.row.cell encO_len ht 2 (by omega)
  simp only [encO, Nat.add_zero, List.getElem?_cons_zero, List.getElem?_cons_succ] at hx0 hx1 hx2
  have hm1 : m < 1000000 := by omega
  have hz := List.getElem?_eq_getElem (l := xs) (i := m) (by omega)
  generalize xs[m]'(by omega) = z at hz
  have hcz := hcutF z hz
  have hz0 := h.row.cell encO_len hz 0 (by omega); have hz1 := h.row.cell encO_len hz 1 (by omega); have hz2 := h.row.cell encO_len hz 2 (by omega)
  simp only [encO, Nat.add_zero, List.getElem?_cons_zero, List.getElem?_cons_succ] at hz0 hz1 hz2
  have HCZ := Lib.hid hcz
  clear hcz
  have HZ := Lib.hid hz
  clear hz
  have HM := Lib.hid hm; have HCF := Lib.hid hcutF; have HT := Lib.hid ht
  clear hm hcutF ht hln hx
  go_enter Try.func25, Try.ntmps25
  go_wp2_with fail
  generalize hW : World.alloc (World.alloc w _) _ = w1
  have hR : Blk w1 w.heap.size #[.int .u64 0, .int .i64 0, .int .i64 0] 62 := by subst hW; exact (Blk.new _ _ _).alloc _
  have hT : Blk w1 (w.heap.size + 1) #[.int .u64 t.at_, .int .i64 t.id, .int .i64 t.tag] 62 := by
    subst hW
    have := Blk.new (w.alloc (.cells #[.int .u64 0, .int .i64 0, .int .i64 0] 62)) #[.int .u64 t.at_, .int .i64 t.id, .int .i64 t.tag] 62
    simpa using this
  have he1 : Ext [] w w1 := by subst hW; exact ((Ext.refl _ _).alloc _).alloc _
  clear hW hcb hx0 hx1 hx2
  have hw1 := h.keep he1 (by simp) (by simp)
  have hwd : Wh w1.drew b (.slice (some ⟨g, 0, none⟩) (m + 1) cap) xs most last := ⟨hw1.blk, hw1.row⟩
  have hcb : w1.cell? ⟨b, 0, none⟩ = some (.slice (some ⟨g, 0, none⟩) (m + 1) cap) := hw1.blk.cell 0
  have hz0 := (he1.cell (p := ⟨g, m * 3, none⟩) hgl (by simp)).trans hz0
  have hz1 := (he1.cell (p := ⟨g, m * 3 + 1, none⟩) hgl (by simp)).trans hz1
  have hz2 := (he1.cell (p := ⟨g, m * 3 + 2, none⟩) hgl (by simp)).trans hz2
  have th0 := hwd.there1 hi
  have b3 : (m : Int) < (m : Int) + 1 := by omega
  have b4 : (0 : Int) ≤ (m : Int) := by omega
  refine start_ (n := 14) (S := fun w' => w'.cell? ⟨b, 0, none⟩ = some (.slice (some ⟨g, 0, none⟩) (m + 1) cap) ∧ w'.cell? ⟨g, m * 3, none⟩ = some (.int .u64 z.at_) ∧ w'.cell? ⟨g, m * 3 + 1, none⟩ = some (.int .i64 z.id) ∧ w'.cell? ⟨g, m * 3 + 2, none⟩ = some (.int .i64 z.tag)) (ds := [13]) #[false, false, false, false, false, false, false, false, false, false, false, false, false, false] (by kernel_rfl) rfl rfl ⟨hcb, hz0, hz1, hz2⟩ (fun hHeld => ?_)
  refine pure_ (i := 0) (N := some 20) (v := ?_) (a' := ?_) #[true, false, false, false, false, false, false, false, false, false, false, false, false, false] rfl rfl (by kernel_rfl) (fun _ _ _ h => h) (Or.inl ⟨by rfl, ?_⟩) ?_ ?_
  rotate_left
  · intro w'
    go_simp
    with_reducible rfl
  rotate_left
  · (simp only [Act.put, List.setIfInBounds_toArray, i64_w, i32_w]; dsimp only [List.set_cons_zero, List.set_cons_succ])
    rfl
  refine pure_ (i := 1) (N := some 21) (v := ?_) (a' := ?_) #[true, true, false, false, false, false, false, false, false, false, false, false, false, false] rfl rfl (by kernel_rfl) (fun _ _ _ h => h) (Or.inl ⟨by rfl, ?_⟩) ?_ ?_
  rotate_left
  · intro w'
    go_simp
    with_reducible rfl
  rotate_left
  · (simp only [Act.put, List.setIfInBounds_toArray, i64_w, i32_w]; dsimp only [List.set_cons_zero, List.set_cons_succ])
    rfl
  refine pure_ (i := 2) (N := some 22) (v := ?_) (a' := ?_) #[true, true, true, false, false, false, false, false, false, false, false, false, false, false] rfl rfl (by kernel_rfl) (fun _ _ _ h => h) (Or.inl ⟨by rfl, ?_⟩) ?_ ?_
  rotate_left
  · intro w'
    go_simp
    with_reducible rfl
  rotate_left
  · (simp only [Act.put, List.setIfInBounds_toArray, i64_w, i32_w]; dsimp only [List.set_cons_zero, List.set_cons_succ])
    rfl
  refine pure_ (i := 4) (N := some 24) (v := ?_) (a' := ?_) #[true, true, true, false, true, false, false, false, false, false, false, false, false, false] rfl rfl (by kernel_rfl) (fun _ _ _ h => h) (Or.inl ⟨by rfl, ?_⟩) ?_ ?_
  rotate_left
  · intro w'
    go_simp
    with_reducible rfl
  rotate_left
  · (simp only [Act.put, List.setIfInBounds_toArray, i64_w, i32_w]; dsimp only [List.set_cons_zero, List.set_cons_succ])
    rfl
  refine pure_ (i := 5) (N := some 25) (v := ?_) (a' := ?_) #[true, true, true, false, true, true, false, false, false, false, false, false, false, false] rfl rfl (by kernel_rfl) (fun _ _ _ h => h) (Or.inl ⟨by rfl, ?_⟩) ?_ ?_
  rotate_left
  · intro w'
    go_simp
    with_reducible rfl
  rotate_left
  · (simp only [Act.put, List.setIfInBounds_toArray, i64_w, i32_w]; dsimp only [List.set_cons_zero, List.set_cons_succ])
    rfl
  refine pure_ (i := 6) (N := some 26) (v := ?_) (a' := ?_) #[true, true, true, false, true, true, true, false, false, false, false, false, false, false] rfl rfl (by kernel_rfl) (fun _ _ _ h => h) (Or.inl ⟨by rfl, ?_⟩) ?_ ?_
  rotate_left
  · intro w'
    go_simp
    with_reducible rfl
  rotate_left
  · (simp only [Act.put, List.setIfInBounds_toArray, i64_w, i32_w]; dsimp only [List.set_cons_zero, List.set_cons_succ])
    rfl
  refine pure_ (i := 7) (N := some 27) (v := ?_) (a' := ?_) #[true, true, true, false, true, true, true, true, false, false, false, false, false, false] rfl rfl (by kernel_rfl) (fun _ _ _ h => h) (Or.inl ⟨by rfl, ?_⟩) ?_ ?_
  rotate_left
  · intro w'
    go_simp
    with_reducible rfl
  rotate_left
  · (simp only [Act.put, List.setIfInBounds_toArray, i64_w, i32_w]; dsimp only [List.set_cons_zero, List.set_cons_succ])
    rfl
  refine pure_ (i := 9) (N := some 29) (v := ?_) (a' := ?_) #[true, true, true, false, true, true, true, true, false, true, false, false, false, false] rfl rfl (by kernel_rfl) (fun _ _ _ h => h) (Or.inl ⟨by rfl, ?_⟩) ?_ ?_
  rotate_left
  · intro w'
    go_simp
    with_reducible rfl
  rotate_left
  · (simp only [Act.put, List.setIfInBounds_toArray, i64_w, i32_w]; dsimp only [List.set_cons_zero, List.set_cons_succ])
    rfl
  refine take_ (i := 3) (N := some 23) (v := ?_) (a' := ?_) #[true, true, true, true, true, true, true, true, false, true, false, false, false, false] rfl rfl (by kernel_rfl) (fun _ _ _ h => h) (Or.inl ⟨by rfl, ?_⟩) hHeld ?_ ?_
  rotate_left
  · rintro w' ⟨s0, s1, s2, s3⟩
    go_simp
    with_reducible rfl
  rotate_left
  · (simp only [Act.put, List.setIfInBounds_toArray, i64_w, i32_w]; dsimp only [List.set_cons_zero, List.set_cons_succ])
    rfl
  refine take_ (i := 8) (N := some 28) (v := ?_) (a' := ?_) #[true, true, true, true, true, true, true, true, true, true, false, false, false, false] rfl rfl (by kernel_rfl) (fun _ _ _ h => h) (Or.inl ⟨by rfl, ?_⟩) hHeld ?_ ?_
  rotate_left
  · rintro w' ⟨s0, s1, s2, s3⟩
    go_simp
    with_reducible rfl
  rotate_left
  · (simp only [Act.put, List.setIfInBounds_toArray, i64_w, i32_w]; dsimp only [List.set_cons_zero, List.set_cons_succ])
    rfl
  refine pure_ (i := 10) (N := some 30) (v := ?_) (a' := ?_) #[true, true, true, true, true, true, true, true, true, true, true, false, false, false] rfl rfl (by kernel_rfl) (fun _ _ _ h => h) (Or.inl ⟨by rfl, ?_⟩) ?_ ?_
  rotate_left
  · intro w'
    go_simp
    with_reducible rfl
  rotate_left
  · (simp only [Act.put, List.setIfInBounds_toArray, i64_w, i32_w]; dsimp only [List.set_cons_zero, List.set_cons_succ])
    rfl
  refine take_ (i := 11) (N := some 31) (v := ?_) (a' := ?_) #[true, true, true, true, true, true, true, true, true, true, true, true, false, false] rfl rfl (by kernel_rfl) (fun _ _ _ h => h) (Or.inl ⟨by rfl, ?_⟩) hHeld ?_ ?_
  rotate_left
  · rintro w' ⟨s0, s1, s2, s3⟩
    go_simp
    with_reducible rfl
  rotate_left
  · (simp only [Act.put, List.setIfInBounds_toArray, i64_w, i32_w]; dsimp only [List.set_cons_zero, List.set_cons_succ])
    rfl
  refine pure_ (i := 12) (N := some 32) (v := ?_) (a' := ?_) #[true, true, true, true, true, true, true, true, true, true, true, true, true, false] rfl rfl (by kernel_rfl) (fun _ _ _ h => h) (Or.inl ⟨by rfl, ?_⟩) ?_ ?_
  rotate_left
  · intro w'
    go_simp
    with_reducible rfl
  rotate_left
  · (simp only [Act.put, List.setIfInBounds_toArray, i64_w, i32_w]; dsimp only [List.set_cons_zero, List.set_cons_succ])
    rfl
  refine last_ (i := 13) (N := none) #[true, true, true, true, true, true, true, true, true, true, true, true, true, true] rfl rfl (by kernel_rfl) (by decide) (fun K hK => ?_)
  refine store_arm (by rfl) rfl 62 _ _ rfl g (i * 3) #[.int .u64 z.at_, .int .i64 z.id, .int .i64 z.tag] (by rfl) (by rfl) th0 info_one (all_one _ _ _) ?_
  refine hK.out _ _ ?_
  clear hK K
  refine done_ (by kernel_rfl) ?_
  clear hHeld hcb hz0 hz1 hz2 th0
  generalize hW2 : World.setCells w1.drew g (i * 3) _ = w2
  have he2 : Ext [g] w1 w2 := by subst hW2; exact Ext.of_drew (Ext.setCells (Or.inl (by simp)) _ _ _ (Ext.refl _ _))
  have hrow2 : Rw encO 3 62 w2 (.slice (some ⟨g, 0, none⟩) (m + 1) cap) (xs.set i z) := by subst hW2; exact hwd.row.put encO_len hi z
  have hblk2 := hw1.blk.keep he2 (by simp; exact fun e => hgb e.symm)
  have hR2 := hR.keep he2 (by simp; omega)
  have hT2 := hT.keep he2 (by simp; omega)
  clear hW2 hwd hw1 hR hT
  have hcb : w2.cell? ⟨b, 0, none⟩ = some (.slice (some ⟨g, 0, none⟩) (m + 1) cap) := hblk2.cell 0
  have hfb : w2.frozen? ⟨b, 0, none⟩ = false := hblk2.free 0
  have b5 : (m : Int) ≤ (cap : Int) := by have := HM.out; omega
  have b6 : ¬ (cap = 0) := by have := HM.out; omega
  have hT20 : w2.cell? ⟨w.heap.size + 1, 0, none⟩ = some (.int .u64 t.at_) := hT2.cell 0
  have hT21 : w2.cell? ⟨w.heap.size + 1, 1, none⟩ = some (.int .i64 t.id) := hT2.cell 1
  have hT22 : w2.cell? ⟨w.heap.size + 1, 2, none⟩ = some (.int .i64 t.tag) := hT2.cell 2
  have hT2' : w2.frozen? ⟨w.heap.size, 0, none⟩ = false := hR2.free 0
  by_cases him : i < m
  · have d1 : decide (i < m) = true := decide_eq_true him
    go_wp2_with fail
    generalize hW3 : World.setCell w2 ⟨b, 0, none⟩ _ = w3
    have he3 : Ext [b] w2 w3 := by subst hW3; exact Ext.setCell (Ext.refl _ _) (Or.inl (by simp)) _
    have hlen : ((xs.set i z).take m).length = m := by simp; have := HM.out; omega
    have hrow3 := (hrow2.take encO_len (m := m) (by simp; have := HM.out; omega)).keep he3 (by simp [Value.ownBlock]; exact hgb)
    have hw3 : Wh w3 b (.slice (some ⟨g, 0, none⟩) m cap) ((xs.set i z).take m) most last := by
      refine ⟨?_, hrow3⟩
      subst hW3
      exact hblk2.set 0 _
    have hR3 := hR2.keep he3 (by simp; omega)
    have hT3 := hT2.keep he3 (by simp; omega)
    clear hW3
    have hlt := he1.size
    have hlt2 := he2.size
    have hlt3 := he3.size
    refine (down_any b g m cap _ most last i (by omega) (by omega) w3 hw3).mono ?_
    rintro e w4 ⟨rfl, hw4, he4⟩
    have hlen4 := downF_len _ ((xs.set i z).take m) i (Nat.le_refl _)
    go_wp2_with fail
    refine (up_any b g m cap _ most last i (by omega) (by omega) w4 hw4).mono ?_
    rintro e w5 ⟨rfl, hw5, he5⟩
    have hlt4 := he4.size
    have hR5 := (hR3.keep he4 (by simp; omega)).keep he5 (by simp; omega)
    have hT5 := (hT3.keep he4 (by simp; omega)).keep he5 (by simp; omega)
    have hT20 : w5.cell? ⟨w.heap.size + 1, 0, none⟩ = some (.int .u64 t.at_) := hT5.cell 0
    have hT21 : w5.cell? ⟨w.heap.size + 1, 1, none⟩ = some (.int .i64 t.id) := hT5.cell 1
    have hT22 : w5.cell? ⟨w.heap.size + 1, 2, none⟩ = some (.int .i64 t.tag) := hT5.cell 2
    have hR50 : w5.cell? ⟨w.heap.size, 0, none⟩ = some (.int .u64 0) := hR5.cell 0
    have hRf0 : w5.frozen? ⟨w.heap.size, 0, none⟩ = false := hR5.free 0
    have hR51 : w5.cell? ⟨w.heap.size, 1, none⟩ = some (.int .i64 0) := hR5.cell 1
    have hRf1 : w5.frozen? ⟨w.heap.size, 1, none⟩ = false := hR5.free 1
    have hR52 : w5.cell? ⟨w.heap.size, 2, none⟩ = some (.int .i64 0) := hR5.cell 2
    have hRf2 : w5.frozen? ⟨w.heap.size, 2, none⟩ = false := hR5.free 2
    go_wp2_with fail
    refine bodyPost_ret (v := .agg #[.int .u64 t.at_, .int .i64 t.id, .int .i64 t.tag]) (by simp [results, Try.results25, go_sem, hR50, hR51, hR52]) rfl ?_
    have heE : ∀ wx wy : World, Ext [b, g] w wx → Ext [b, g] w (((wx.setCell ⟨w.heap.size, 0, none⟩ (.int .u64 t.at_)).setCell ⟨w.heap.size, 1, none⟩ (.int .i64 t.id)).setCell ⟨w.heap.size, 2, none⟩ (.int .i64 t.tag)) := fun wx wy hx => ((hx.setCell (Or.inr (Nat.le_refl _)) _).setCell (Or.inr (Nat.le_refl _)) _).setCell (Or.inr (Nat.le_refl _)) _
    have he02 : Ext [b, g] w w2 := (he1.mono (T := [b, g]) (by simp)).trans he2 (by simp)
    have he05 : Ext [b, g] w w5 := (((he02.trans he3 (by simp)).trans he4 (by simp)).trans he5 (by simp))
    refine ⟨rfl, ?_, heE _ w5 he05⟩
    have e2 : xs.length - 1 = m := by have := HM.out; omega
    rw [e2, HCZ.out, if_pos him]
    have heX : Ext [] w5 w5 := Ext.refl _ _
    refine hw5.keep (S := [w.heap.size]) (((Ext.setCell (Ext.refl _ _) (Or.inl (by simp)) _).setCell (Or.inl (by simp)) _).setCell (Or.inl (by simp)) _) (by simp; omega) (by simp [Value.ownBlock]; omega)
  · have d1 : decide (i < m) = false := decide_eq_false him
    have hT20 : w2.cell? ⟨w.heap.size + 1, 0, none⟩ = some (.int .u64 t.at_) := hT2.cell 0
    have hT21 : w2.cell? ⟨w.heap.size + 1, 1, none⟩ = some (.int .i64 t.id) := hT2.cell 1
    have hT22 : w2.cell? ⟨w.heap.size + 1, 2, none⟩ = some (.int .i64 t.tag) := hT2.cell 2
    have hR50 : w2.cell? ⟨w.heap.size, 0, none⟩ = some (.int .u64 0) := hR2.cell 0
    have hRf0 : w2.frozen? ⟨w.heap.size, 0, none⟩ = false := hR2.free 0
    have hR51 : w2.cell? ⟨w.heap.size, 1, none⟩ = some (.int .i64 0) := hR2.cell 1
    have hRf1 : w2.frozen? ⟨w.heap.size, 1, none⟩ = false := hR2.free 1
    have hR52 : w2.cell? ⟨w.heap.size, 2, none⟩ = some (.int .i64 0) := hR2.cell 2
    have hRf2 : w2.frozen? ⟨w.heap.size, 2, none⟩ = false := hR2.free 2
    clear hT2'
    go_wp2_with fail
    generalize hW3 : World.setCell w2 ⟨b, 0, none⟩ _ = w3
    have he3 : Ext [b] w2 w3 := by subst hW3; exact Ext.setCell (Ext.refl _ _) (Or.inl (by simp)) _
    have hlen : ((xs.set i z).take m).length = m := by simp; have := HM.out; omega
    have hrow3 := (hrow2.take encO_len (m := m) (by simp; have := HM.out; omega)).keep he3 (by simp [Value.ownBlock]; exact hgb)
    have hw3 : Wh w3 b (.slice (some ⟨g, 0, none⟩) m cap) ((xs.set i z).take m) most last := by
      refine ⟨?_, hrow3⟩
      subst hW3
      exact hblk2.set 0 _
    have hR3 := hR2.keep he3 (by simp; omega)
    have hT3 := hT2.keep he3 (by simp; omega)
    clear hW3
    have hlt := he1.size
    have hlt2 := he2.size
    have hlt3 := he3.size
    have hT20 : w3.cell? ⟨w.heap.size + 1, 0, none⟩ = some (.int .u64 t.at_) := hT3.cell 0
    have hT21 : w3.cell? ⟨w.heap.size + 1, 1, none⟩ = some (.int .i64 t.id) := hT3.cell 1
    have hT22 : w3.cell? ⟨w.heap.size + 1, 2, none⟩ = some (.int .i64 t.tag) := hT3.cell 2
    have hR50 : w3.cell? ⟨w.heap.size, 0, none⟩ = some (.int .u64 0) := hR3.cell 0
    have hRf0 : w3.frozen? ⟨w.heap.size, 0, none⟩ = false := hR3.free 0
    have hR51 : w3.cell? ⟨w.heap.size, 1, none⟩ = some (.int .i64 0) := hR3.cell 1
    have hRf1 : w3.frozen? ⟨w.heap.size, 1, none⟩ = false := hR3.free 1
    have hR52 : w3.cell? ⟨w.heap.size, 2, none⟩ = some (.int .i64 0) := hR3.cell 2
    have hRf2 : w3.frozen? ⟨w.heap.size, 2, none⟩ = false := hR3.free 2
    refine bodyPost_ret (v := .agg #[.int .u64 t.at_, .int .i64 t.id, .int .i64 t.tag]) (by simp [results, Try.results25, go_sem, hR50, hR51, hR52]) rfl ?_
    have heE : ∀ wx wy : World, Ext [b, g] w wx → Ext [b, g] w (((wx.setCell ⟨w.heap.size, 0, none⟩ (.int .u64 t.at_)).setCell ⟨w.heap.size, 1, none⟩ (.int .i64 t.id)).setCell ⟨w.heap.size, 2, none⟩ (.int .i64 t.tag)) := fun wx wy hx => ((hx.setCell (Or.inr (Nat.le_refl _)) _).setCell (Or.inr (Nat.le_refl _)) _).setCell (Or.inr (Nat.le_refl _)) _
    have he02 : Ext [b, g] w w2 := (he1.mono (T := [b, g]) (by simp)).trans he2 (by simp)
    have he05 : Ext [b, g] w w3 := he02.trans he3 (by simp)
    refine ⟨rfl, ?_, heE _ w3 he05⟩
    have e2 : xs.length - 1 = m := by have := HM.out; omega
    rw [e2, HCZ.out, if_neg him]
    have hlt4 := he1.size
    have q1 : w.heap.size ≠ b := by omega
    have q2 : w.heap.size ≠ g := by omega
    refine hw3.keep (S := [w.heap.size]) (((Ext.setCell (Ext.refl _ _) (Or.inl (by simp)) _).setCell (Or.inl (by simp)) _).setCell (Or.inl (by simp)) _) (by simp; exact q1.symm) (by simp [Value.ownBlock]; exact q2.symm)
end Go.Proofs.Ytlnablnnnnkeaaa
