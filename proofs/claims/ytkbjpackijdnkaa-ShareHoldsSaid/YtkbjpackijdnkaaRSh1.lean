/- The document's preflights: the object; New, at, out, Of, by contract. -/
import Derived.Test.YtkbjpackijdnkaaShMembers
import Derived.Test.YtkbjpackijdnkaaShJoin
namespace Go.Proofs.Ytkbjpackijdnkaa
open Go.RowKit Go.Proofs.YtkbjpackijdnkaaW.PrintLast
set_option linter.unusedVariables false
set_option linter.unusedSimpArgs false

theorem tyRp : ETy Try.prog 80 114 7 := ⟨by kernel_rfl, ⟨Try.t114, _, by kernel_rfl, by rfl, by rfl, by decide, by rfl⟩, by decide⟩
/-- The table at b: its last number, its preflights. -/
structure RhT (w : World) (b : Nat) (v : Value) (last : Int) (L : List Sh) : Prop where
  ob : Ob encSh 7 114 (fun v => #[.int .i64 last, v]) 82 w b v L
  inn : ∀ s ∈ L, RI w s.row s.ids
  dis : (mOwn L).Nodup

theorem RhT.keep {R : List Nat} {w w' : World} {b : Nat} {v : Value} {last : Int} {L : List Sh} (h : RhT w b v last L) (he : Ext R w w') (hR : ∀ x ∈ (b :: v.ownBlock.toList) ++ mOwn L, x ∉ R) : RhT w' b v last L :=
  ⟨h.ob.keep he (fun x hx => hR x (List.mem_append_left _ hx)), fun s hs => (h.inn s hs).keep he (fun g hg => hR g (List.mem_append_right _ (mem_mOwn hs hg))), h.dis⟩
theorem RhT.keep0 {w w' : World} {b : Nat} {v : Value} {last : Int} {L : List Sh} (h : RhT w b v last L) (he : Ext [] w w') : RhT w' b v last L := h.keep he (by simp)
theorem RhT.lt {w : World} {b : Nat} {v : Value} {last : Int} {L : List Sh} (h : RhT w b v last L) : ∀ x ∈ (b :: v.ownBlock.toList) ++ mOwn L, x < w.heap.size := by
  intro x hx
  rcases List.mem_append.1 hx with hx | hx
  · exact h.ob.lt x hx
  · obtain ⟨s, hs, hg⟩ := List.mem_flatMap.1 hx
    exact (h.inn s hs).lt x (by simpa using hg)
/-- The members' rows lie apart from the table's own. -/
theorem RhT.apart {w : World} {b : Nat} {v : Value} {last : Int} {L : List Sh} (h : RhT w b v last L) : ∀ x ∈ mOwn L, x ∉ b :: v.ownBlock.toList := by
  intro x hx hm
  obtain ⟨s, hs, hg⟩ := List.mem_flatMap.1 hx
  have hg : s.row.ownBlock = some x := by simpa using hg
  rcases List.mem_cons.1 hm with rfl | hm
  · exact (h.inn s hs).ne_blk h.ob.blk (by decide) hg
  · exact (h.inn s hs).apart h.ob.row (by decide) x hg (by simpa using hm)

/-- A row of members is changed, and its value stored. -/
theorem RhT.set_row {w w1 : World} {b g n cap i : Nat} {last : Int} {L : List Sh} {s : Sh} (h : RhT w b (.slice (some ⟨g, 0, none⟩) n cap) last L) (hs : L[i]? = some s) (a' : Option Addr) (c' : Nat) (ids' : List Int)
    (he : Ext s.row.ownBlock.toList w w1) (hr : RI w1 (.slice a' ids'.length c') ids') (hg : ∀ x, (Value.slice a' ids'.length c').ownBlock = some x → s.row.ownBlock = some x ∨ w.heap.size ≤ x) :
    RhT (w1.setCell ⟨g, i * 7 + 6, none⟩ (.slice a' ids'.length c')) b (.slice (some ⟨g, 0, none⟩) n cap) last (L.set i ⟨s.num, s.want, a', c', ids'⟩) ∧
    Ext ((b :: [g]) ++ mOwn L) w (w1.setCell ⟨g, i * 7 + 6, none⟩ (.slice a' ids'.length c')) ∧ (∀ x ∈ mOwn (L.set i ⟨s.num, s.want, a', c', ids'⟩), x ∈ mOwn L ∨ w.heap.size ≤ x) := by
  have hsm : s ∈ L := List.mem_of_getElem? hs
  have hil := (List.getElem?_eq_some_iff.1 hs).1
  have hap : ∀ x, s.row.ownBlock = some x → x ∉ [b, g] := fun x hx hm => h.apart x (mem_mOwn hsm hx) (by simpa [Value.ownBlock] using hm)
  have hlt := h.ob.lt
  have hob1 : Ob encSh 7 114 (fun v => #[.int .i64 last, v]) 82 w1 b (.slice (some ⟨g, 0, none⟩) n cap) L := h.ob.keep he (fun x hx hm => hap x (by simpa using hm) (by simpa [Value.ownBlock] using hx))
  have e2 : Ext [g] w1 (w1.setCell ⟨g, i * 7 + 6, none⟩ (.slice a' ids'.length c')) := (Ext.refl _ _).setCell (Or.inl (by simp)) _
  have hnew : ∀ x, (Value.slice a' ids'.length c').ownBlock = some x → x ≠ g ∧ x ≠ b := fun x hx => by
    rcases hg x hx with h1 | h1
    · have := hap x h1; simp at this; exact ⟨this.2, this.1⟩
    · have h2 := hlt g (by simp [Value.ownBlock]); have h3 := hlt b (by simp); exact ⟨by omega, by omega⟩
  have hmo : ∀ x ∈ mOwn (L.set i ⟨s.num, s.want, a', c', ids'⟩), x ∈ mOwn L ∨ w.heap.size ≤ x := by
    intro x hx
    obtain ⟨t, ht, hxt⟩ := List.mem_flatMap.1 hx
    have hxt : t.row.ownBlock = some x := by simpa using hxt
    rcases List.mem_or_eq_of_mem_set ht with ht | rfl
    · exact .inl (mem_mOwn ht hxt)
    · rcases hg x hxt with h1 | h1
      · exact .inl (mem_mOwn hsm h1)
      · exact .inr h1
  refine ⟨⟨⟨hob1.blk_at rfl e2, ?_, h.ob.ne⟩, ?_, ?_⟩, ?_, hmo⟩
  · exact hob1.row.put1 encSh_ok.len (by omega) hs _ ⟨s.num, s.want, a', c', ids'⟩ rfl
  · intro t ht
    obtain ⟨j, hj⟩ := List.mem_iff_getElem?.1 ht
    rw [List.getElem?_set] at hj
    by_cases hij : i = j
    · rw [if_pos hij, if_pos hil] at hj
      injection hj with hj
      subst hj
      exact hr.keep e2 (fun x hx hm => (hnew x hx).1 (by simpa using hm))
    · rw [if_neg hij] at hj
      have htm := List.mem_of_getElem? hj
      refine ((h.inn t htm).keep he (fun x hx hm => ?_)).keep e2 (fun x hx hm => ?_)
      · have hm : s.row.ownBlock = some x := by simpa using hm
        exact dis_ne h.dis hs hj hij hm hx
      · have := h.apart x (mem_mOwn htm hx)
        simp [Value.ownBlock] at this hm
        exact this.2 hm
  · have hd := h.dis
    rw [split_at hs, mOwn_append, mOwn_cons] at hd
    rw [set_at hil, mOwn_append, mOwn_cons]
    refine nodup_mid hd (fun x hx => ?_)
    rcases hg x hx with h1 | h1
    · exact .inl h1
    · right
      have hl2 := fun y hy => h.lt y (List.mem_append_right _ hy)
      constructor
      · intro hm
        have := hl2 x (by rw [split_at hs, mOwn_append]; exact List.mem_append_left _ hm); omega
      · intro hm
        have := hl2 x (by rw [split_at hs, mOwn_append, mOwn_cons]; exact List.mem_append_right _ (List.mem_append_right _ hm)); omega
  · exact (he.mono (fun x hx => .inl (List.mem_append_right _ (mem_mOwn hsm (by simpa using hx))))).setCell (Or.inl (by simp)) _

theorem RhT.bump {w : World} {b : Nat} {v : Value} {last : Int} {L : List Sh} (h : RhT w b v last L) (k : Int) : RhT (w.setCell ⟨b, 0, none⟩ (.int .i64 k)) b v k L ∧ Ext [b] w (w.setCell ⟨b, 0, none⟩ (.int .i64 k)) := by
  have he : Ext [b] w (w.setCell ⟨b, 0, none⟩ (.int .i64 k)) := (Ext.refl _ _).setCell (Or.inl (by simp)) _
  refine ⟨⟨⟨h.ob.blk.set 0 _, h.ob.row.keep he (fun x hx hm => h.ob.ne (by simp at hm; rw [hx, hm])), h.ob.ne⟩, fun s hs => (h.inn s hs).keep he (fun x hx hm => h.apart x (mem_mOwn hs hx) (by simp at hm; simp [hm])), h.dis⟩, he⟩

/-- A preflight goes, the row is a new one. -/
theorem RhT.replaced {w w2 : World} {b : Nat} {v v' : Value} {last : Int} {L : List Sh} {i : Nat} (h : RhT w b v last L) (he : Ext [] w w2) (hr : Rw encSh 7 114 w2 v' (L.eraseIdx i)) (hg : ∀ g, v'.ownBlock = some g → w.heap.size ≤ g) :
    RhT (w2.setCell ⟨b, 1, none⟩ v') b v' last (L.eraseIdx i) ∧ Ext [b] w (w2.setCell ⟨b, 1, none⟩ v') := by
  obtain ⟨h1, h2, -⟩ := h.ob.replaced he hr hg 1 (by simp)
  refine ⟨⟨h1, fun s hs => ?_, h.dis.sublist (mOwn_erase L i)⟩, h2⟩
  have hsm := List.mem_of_mem_eraseIdx hs
  exact (h.inn s hsm).keep h2 (fun x hx hm => h.apart x (mem_mOwn hsm hx) (by simp at hm; simp [hm]))

set_option maxHeartbeats 400000 in
theorem rshNew_any (w : World) : Calls Try.prog 42 #[] w fun e w' => e = .returned (.pointer (some ⟨w.heap.size, 0, none⟩)) ∧ RhT w' w.heap.size (.slice none 0 0) 0 [] ∧ Ext [] w w' := by
  go_enter Try.func42, Try.ntmps42
  go_wp2_with fail
  go_ret
  exact ⟨rfl, ⟨⟨Blk.new _ _ _, Rw.nil _, by simp [Value.ownBlock]⟩, by simp, by simp [mOwn]⟩, (Ext.refl _ _).alloc _⟩

set_option maxHeartbeats 1600000 in
theorem rshAt_any (b : Nat) (v : Value) (last : Int) (L : List Sh) (pre : Int) (hx : L.length < 1000000) (w : World) (h : RhT w b v last L) :
    Calls Try.prog 73 #[.pointer (some ⟨b, 0, none⟩), .int .i64 pre] w fun e w' => e = .returned (.int .i64 (idxI (numIs pre) L)) ∧ w = w' := by
  obtain ⟨a, cap, rfl⟩ := h.ob.row.val
  obtain ⟨n, hn⟩ : ∃ n, n = L.length := ⟨_, rfl⟩
  have hob := h.ob
  rw [← hn] at hob
  have hcv : w.cell? ⟨b, 1, none⟩ = some (.slice a n cap) := hob.blk.cell 1
  have hr := hob.row
  have HN := Lib.hid hn
  have hn1 : n < 1000000 := by omega
  clear hn hx h hob
  go_enter Try.func73, Try.ntmps73
  go_wp2_with fail
  go_loop [5] (fun iv => ∃ (k : Nat), k ≤ n ∧ iv = .int .i64 k ∧ Hid (∀ (j : Nat) x, j < k → L[j]? = some x → numIs pre x = false)) (fun iv => n - (intOf iv).toNat)
  case atStart => exact ⟨0, Nat.zero_le _, rfl, fun j x hj => absurd hj (Nat.not_lt_zero _)⟩
  case round =>
    obtain ⟨k, hkn, rfl, hall⟩ := hrel
    by_cases hlt : k < n
    · obtain ⟨x, hxk⟩ : ∃ x, L[k]? = some x := ⟨_, List.getElem?_eq_getElem (by rw [← HN.out]; exact hlt)⟩
      have d1 : decide (k < n) = true := decide_eq_true hlt
      obtain ⟨gb, rfl, hgl⟩ := hr.addr (by omega)
      have hx0 := hr.cell encSh_ok.len hxk 0 (by omega)
      simp only [encSh, Nat.add_zero, List.getElem?_cons_zero, List.getElem?_cons_succ] at hx0
      have b1 : (0 : Int) ≤ (k : Int) := by omega
      have b2 : (k : Int) < (n : Int) := by omega
      have hs : numIs pre x = (x.num == pre) := rfl
      have HXK := Lib.hid hxk; have HSS := Lib.hid hs
      clear hr hxk hs
      cases hq : (x.num == pre)
      · rw [hq] at HSS
        go_wp2_with fail
        refine ⟨⟨k + 1, by omega, rfl, ?_⟩, by simp [intOf]; omega⟩
        intro j y hj hy
        rcases Nat.lt_or_ge j k with h1 | h1
        · exact hall.out j y h1 hy
        · have : j = k := by omega
          rw [this, HXK.out] at hy
          injection hy with hy
          rw [← hy]; exact HSS.out
      · rw [hq] at HSS
        go_wp2_with fail
        go_ret
        exact ⟨ret_int (idxI_some HXK.out HSS.out hall.out), rfl⟩
    · have d1 : decide (k < n) = false := decide_eq_false hlt
      go_wp2_with fail
      go_ret
      exact ⟨ret_int (idxI_none (fun j x hx => hall.out j x (by have := (List.getElem?_eq_some_iff.1 hx).1; have := HN.out; omega) hx)), rfl⟩

set_option maxHeartbeats 3200000 in
set_option maxRecDepth 100000 in
theorem rshOut_any (b gb n cap k : Nat) (last : Int) (xs : List Sh) (hlt : k < n) (hn1 : n < 100000) (w : World) (h0 : RhT w b (.slice (some ⟨gb, 0, none⟩) n cap) last xs) :
    Calls Try.prog 72 #[.pointer (some ⟨b, 0, none⟩), .int .i64 k] w fun e w' => e = .returned (.tuple #[]) ∧ Chg (fun w' S' => ∃ v', RhT w' b v' last (xs.eraseIdx k) ∧ S' = b :: v'.ownBlock.toList) [b, gb] w w' := by
  have h := h0.ob
  have H0 := Lib.hid h0
  clear h0
  have hn := h.row.len
  have hcv : w.cell? ⟨b, 1, none⟩ = some (.slice (some ⟨gb, 0, none⟩) n cap) := h.blk.cell 1
  have hcap : n ≤ cap := h.row.cap_le
  have hlb := h.blk.lt
  have b1 : (0 : Int) ≤ (k : Int) := by omega
  have HH := Lib.hid h
  have HN := Lib.hid hn
  clear h hn
  go_enter Try.func72, Try.ntmps72
  go_wp2_with fail
  skip
  have hsa := HH.out.row.drew.takeSl encSh_ok.len (i := k) (by omega) cap
  have hl1 : LenIs ([] : List Sh) (xs.take k) k := by unfold LenIs; rw [List.length_take]; have := HN.out; simp; omega
  have hl2 : LenIs (xs.take k) (xs.drop (k + 1)) (n - 1) := by unfold LenIs; rw [List.length_take, List.length_drop]; have := HN.out; omega
  have hgo : ∀ v' : Value, v' = .slice none 0 0 → ∀ g, v'.ownBlock = some g → w.heap.size ≤ g := by intro v' h g hg; subst h; simp [Value.ownBlock] at hg
  have HLB := Lib.hid hlb; have HL1 := Lib.hid hl1; have HL2 := Lib.hid hl2; have HSA := Lib.hid hsa; have HCV := Lib.hid hcv
  clear hl1 hl2 hsa hgo
  have hsb : Sl encSh w.drew (.slice (if cap = k + 1 then some ⟨gb, 0, none⟩ else some ⟨gb, (k + 1) * 7, none⟩) (n - (k + 1)) (cap - (k + 1))) (xs.drop (k + 1)) := HH.out.row.drew.tailSl encSh_ok.len (i := k + 1) (by omega)
  have HSB := Lib.hid hsb
  clear hsb
  have f1 : (k : Int) ≤ (cap : Int) := by omega
  have f2 : (k : Int) + 1 ≤ (n : Int) := by omega
  have f3 : (0 : Int) ≤ (k : Int) + 1 := by omega
  have f4 : ((k : Int) + 1).toNat = k + 1 := by omega
  have g63 : k ≤ 1000000 := by omega
  have g64 : n - 1 ≤ 1000000 := by omega
  have f5 : wrap64 ((k : Int) + 1) = (k : Int) + 1 := by unfold wrap64; omega
  refine start_ (n := 19) (S := fun w' => w'.cell? ⟨b, 1, none⟩ = some (.slice (some ⟨gb, 0, none⟩) n cap)) (ds := [18]) #[false, false, false, false, false, false, false, false, false, false, false, false, false, false, false, false, false, false, false] (by kernel_rfl) rfl rfl (hcv) (fun hHeld => ?_)
  refine pure_ (i := 0) (N := some 4) (v := ?_) (a' := ?_) #[true, false, false, false, false, false, false, false, false, false, false, false, false, false, false, false, false, false, false] rfl rfl (by kernel_rfl) (fun _ _ _ h => h) (Or.inl ⟨by rfl, ?_⟩) ?_ ?_
  rotate_left
  · intro w'
    go_simp
    with_reducible rfl
  rotate_left
  · simp only [Act.put, List.setIfInBounds_toArray, List.set_cons_zero, List.set_cons_succ, i64_w, i32_w]
    rfl
  refine pure_ (i := 1) (N := some 5) (v := ?_) (a' := ?_) #[true, true, false, false, false, false, false, false, false, false, false, false, false, false, false, false, false, false, false] rfl rfl (by kernel_rfl) (fun _ _ _ h => h) (Or.inl ⟨by rfl, ?_⟩) ?_ ?_
  rotate_left
  · intro w'
    go_simp
    with_reducible rfl
  rotate_left
  · simp only [Act.put, List.setIfInBounds_toArray, List.set_cons_zero, List.set_cons_succ, i64_w, i32_w]
    rfl
  refine pure_ (i := 2) (N := some 6) (v := ?_) (a' := ?_) #[true, true, true, false, false, false, false, false, false, false, false, false, false, false, false, false, false, false, false] rfl rfl (by kernel_rfl) (fun _ _ _ h => h) (Or.inl ⟨by rfl, ?_⟩) ?_ ?_
  rotate_left
  · intro w'
    go_simp
    with_reducible rfl
  rotate_left
  · simp only [Act.put, List.setIfInBounds_toArray, List.set_cons_zero, List.set_cons_succ, i64_w, i32_w]
    rfl
  refine pure_ (i := 3) (N := some 7) (v := ?_) (a' := ?_) #[true, true, true, true, false, false, false, false, false, false, false, false, false, false, false, false, false, false, false] rfl rfl (by kernel_rfl) (fun _ _ _ h => h) (Or.inl ⟨by rfl, ?_⟩) ?_ ?_
  rotate_left
  · intro w'
    go_simp
    with_reducible rfl
  rotate_left
  · simp only [Act.put, List.setIfInBounds_toArray, List.set_cons_zero, List.set_cons_succ, i64_w, i32_w]
    rfl
  refine pure_ (i := 5) (N := some 9) (v := ?_) (a' := ?_) #[true, true, true, true, false, true, false, false, false, false, false, false, false, false, false, false, false, false, false] rfl rfl (by kernel_rfl) (fun _ _ _ h => h) (Or.inl ⟨by rfl, ?_⟩) ?_ ?_
  rotate_left
  · intro w'
    go_simp
    with_reducible rfl
  rotate_left
  · simp only [Act.put, List.setIfInBounds_toArray, List.set_cons_zero, List.set_cons_succ, i64_w, i32_w]
    rfl
  refine pure_ (i := 8) (N := some 12) (v := ?_) (a' := ?_) #[true, true, true, true, false, true, false, false, true, false, false, false, false, false, false, false, false, false, false] rfl rfl (by kernel_rfl) (fun _ _ _ h => h) (Or.inl ⟨by rfl, ?_⟩) ?_ ?_
  rotate_left
  · intro w'
    go_simp
    with_reducible rfl
  rotate_left
  · simp only [Act.put, List.setIfInBounds_toArray, List.set_cons_zero, List.set_cons_succ, i64_w, i32_w]
    rfl
  refine pure_ (i := 9) (N := some 13) (v := ?_) (a' := ?_) #[true, true, true, true, false, true, false, false, true, true, false, false, false, false, false, false, false, false, false] rfl rfl (by kernel_rfl) (fun _ _ _ h => h) (Or.inl ⟨by rfl, ?_⟩) ?_ ?_
  rotate_left
  · intro w'
    go_simp
    with_reducible rfl
  rotate_left
  · simp only [Act.put, List.setIfInBounds_toArray, List.set_cons_zero, List.set_cons_succ, i64_w, i32_w]
    rfl
  refine pure_ (i := 10) (N := some 14) (v := ?_) (a' := ?_) #[true, true, true, true, false, true, false, false, true, true, true, false, false, false, false, false, false, false, false] rfl rfl (by kernel_rfl) (fun _ _ _ h => h) (Or.inl ⟨by rfl, ?_⟩) ?_ ?_
  rotate_left
  · intro w'
    go_simp
    with_reducible rfl
  rotate_left
  · simp only [Act.put, List.setIfInBounds_toArray, List.set_cons_zero, List.set_cons_succ, i64_w, i32_w]
    rfl
  refine pure_ (i := 12) (N := some 16) (v := ?_) (a' := ?_) #[true, true, true, true, false, true, false, false, true, true, true, false, true, false, false, false, false, false, false] rfl rfl (by kernel_rfl) (fun _ _ _ h => h) (Or.inl ⟨by rfl, ?_⟩) ?_ ?_
  rotate_left
  · intro w'
    go_simp
    with_reducible rfl
  rotate_left
  · simp only [Act.put, List.setIfInBounds_toArray, List.set_cons_zero, List.set_cons_succ, i64_w, i32_w]
    rfl
  refine pure_ (i := 13) (N := some 17) (v := ?_) (a' := ?_) #[true, true, true, true, false, true, false, false, true, true, true, false, true, true, false, false, false, false, false] rfl rfl (by kernel_rfl) (fun _ _ _ h => h) (Or.inl ⟨by rfl, ?_⟩) ?_ ?_
  rotate_left
  · intro w'
    go_simp
    with_reducible rfl
  rotate_left
  · simp only [Act.put, List.setIfInBounds_toArray, List.set_cons_zero, List.set_cons_succ, i64_w, i32_w]
    rfl
  refine take_ (i := 4) (N := some 8) (v := ?_) (a' := ?_) #[true, true, true, true, true, true, false, false, true, true, true, false, true, true, false, false, false, false, false] rfl rfl (by kernel_rfl) (fun _ _ _ h => h) (Or.inl ⟨by rfl, ?_⟩) hHeld ?_ ?_
  rotate_left
  · intro w' s0
    go_simp
    with_reducible rfl
  rotate_left
  · simp only [Act.put, List.setIfInBounds_toArray, List.set_cons_zero, List.set_cons_succ, i64_w, i32_w]
    rfl
  refine pure_ (i := 6) (N := some 10) (v := ?_) (a' := ?_) #[true, true, true, true, true, true, true, false, true, true, true, false, true, true, false, false, false, false, false] rfl rfl (by kernel_rfl) (fun _ _ _ h => h) (Or.inl ⟨by rfl, ?_⟩) ?_ ?_
  rotate_left
  · intro w'
    go_simp
    with_reducible rfl
  rotate_left
  · simp only [Act.put, List.setIfInBounds_toArray, List.set_cons_zero, List.set_cons_succ, i64_w, i32_w]
    rfl
  refine take_ (i := 11) (N := some 15) (v := ?_) (a' := ?_) #[true, true, true, true, true, true, true, false, true, true, true, true, true, true, false, false, false, false, false] rfl rfl (by kernel_rfl) (fun _ _ _ h => h) (Or.inl ⟨by rfl, ?_⟩) hHeld ?_ ?_
  rotate_left
  · intro w' s0
    go_simp
    with_reducible rfl
  rotate_left
  · simp only [Act.put, List.setIfInBounds_toArray, List.set_cons_zero, List.set_cons_succ, i64_w, i32_w]
    rfl
  refine pure_ (i := 14) (N := some 18) (v := ?_) (a' := ?_) #[true, true, true, true, true, true, true, false, true, true, true, true, true, true, true, false, false, false, false] rfl rfl (by kernel_rfl) (fun _ _ _ h => h) (Or.inl ⟨by rfl, ?_⟩) ?_ ?_
  rotate_left
  · intro w'
    go_simp
    with_reducible rfl
  rotate_left
  · simp only [Act.put, List.setIfInBounds_toArray, List.set_cons_zero, List.set_cons_succ, i64_w, i32_w]
    rfl
  refine one_ (i := 7) (N := some 11) #[true, true, true, true, true, true, true, true, true, true, true, true, true, true, true, false, false, false, false] rfl rfl (by kernel_rfl) (by decide) (fun K hK => ?_)
  refine step_appN tyRp encSh_ok (by rfl) _ _ (by rfl) (Rw.nil w.drew) (by rfl) HSA.out (by rfl) HL1.out g63 ?_
  intro a1 c1 w1 hr1 hS1 hg1
  have he1 : Ext [] w w1 := Ext.of_drew (hS1 [] (by simp [Value.ownBlock]))
  have hg1' : ∀ g, (Value.slice a1 k c1).ownBlock = some g → w.heap.size ≤ g := fun g hg => (hg1 g hg).elim (fun h => by simp [Value.ownBlock] at h) (fun h => h)
  rw [List.nil_append] at hr1
  clear hS1 hg1
  refine hK.out _ _ (((he1.cell (p := ⟨b, 1, none⟩) HLB.out (by simp)).trans HCV.out)) (fun hHeld => ?_)
  clear hK K
  refine norm_ (a' := ?_) ?_ ?_
  rotate_left
  · show Act.put _ (some 11) _ = _
    simp only [Act.put, List.setIfInBounds_toArray, List.set_cons_zero, List.set_cons_succ, i64_w, i32_w]
    rfl
  refine one_ (i := 15) (N := some 19) #[true, true, true, true, true, true, true, true, true, true, true, true, true, true, true, true, false, false, false] rfl rfl (by kernel_rfl) (by decide) (fun K hK => ?_)
  refine step_appN tyRp encSh_ok (by rfl) _ _ (by rfl) hr1 (by rfl) (HSB.out.keep (Ext.of_drew_left he1) (by simp)) (by rfl) HL2.out g64 ?_
  intro a2 c2 w2 hr2 hS2 hg2
  have he2 : Ext [] w w2 := fresh_app he1 hg1' hS2
  have hfz : w2.frozen? ⟨b, 1, none⟩ = false := (he2.frozen (p := ⟨b, 1, none⟩) HLB.out (by simp)).trans (HH.out.blk.free 1)
  refine hK.out _ _ (((he2.cell (p := ⟨b, 1, none⟩) HLB.out (by simp)).trans HCV.out)) (fun hHeld => ?_)
  clear hK K
  refine norm_ (a' := ?_) ?_ ?_
  rotate_left
  · show Act.put _ (some 19) _ = _
    simp only [Act.put, List.setIfInBounds_toArray, List.set_cons_zero, List.set_cons_succ, i64_w, i32_w]
    rfl
  refine pure_ (i := 16) (N := some 20) (v := ?_) (a' := ?_) #[true, true, true, true, true, true, true, true, true, true, true, true, true, true, true, true, true, false, false] rfl rfl (by kernel_rfl) (fun _ _ _ h => h) (Or.inl ⟨by rfl, ?_⟩) ?_ ?_
  rotate_left
  · intro w'
    go_simp
    with_reducible rfl
  rotate_left
  · simp only [Act.put, List.setIfInBounds_toArray, List.set_cons_zero, List.set_cons_succ, i64_w, i32_w]
    rfl
  refine pure_ (i := 17) (N := some 21) (v := ?_) (a' := ?_) #[true, true, true, true, true, true, true, true, true, true, true, true, true, true, true, true, true, true, false] rfl rfl (by kernel_rfl) (fun _ _ _ h => h) (Or.inl ⟨by rfl, ?_⟩) ?_ ?_
  rotate_left
  · intro w'
    go_simp
    with_reducible rfl
  rotate_left
  · simp only [Act.put, List.setIfInBounds_toArray, List.set_cons_zero, List.set_cons_succ, i64_w, i32_w]
    rfl
  refine last_ (i := 18) (N := none) #[true, true, true, true, true, true, true, true, true, true, true, true, true, true, true, true, true, true, true] rfl rfl (by kernel_rfl) (by decide) (fun K hK => ?_)
  refine skip_ (w1 := ?_) (by rfl) rfl ?_ ?_
  rotate_left
  · go_simp
    rfl
  refine hK.out _ _ ?_
  clear hK K
  refine done_ (by kernel_rfl) ?_
  have hfin := HH.out.replaced he2 hr2 (fun g hg => (hg2 g hg).elim (hg1' g) (fun h => Nat.le_trans he1.size h)) 1 (by simp)
  have HF := Lib.hid hfin
  clear hfin hr1 hr2 hS2 hg2 hg1' f5 f4 f1 f2 f3
  go_wp2_with fail

  all_goals
    go_end0
    have hg9 : ∀ y, (Value.slice a2 (n - 1) c2).ownBlock = some y → y = gb ∨ w.heap.size ≤ y := fun y hy => by
      rcases HF.out.2.2 y (by simp [hy]) with h8 | h8
      · rcases List.mem_cons.1 h8 with rfl | h8
        · exact absurd hy HF.out.1.ne
        · left; simpa [Value.ownBlock, eq_comm] using h8
      · exact .inr h8
    have hob := HF.out.1
    rw [← List.eraseIdx_eq_take_drop_succ] at hob
    refine ⟨rfl, _, ⟨_, ⟨hob, fun s hs => ?_, H0.out.dis.sublist (mOwn_erase xs k)⟩, rfl⟩, HF.out.2.1.mono (by simp), HF.out.2.2⟩
    have hsm := List.mem_of_mem_eraseIdx hs
    exact (H0.out.inn s hsm).keep HF.out.2.1 (fun x hx hm => H0.out.apart x (mem_mOwn hsm hx) (by simp at hm; simp [hm]))

theorem find_some_of {α : Type} {p : α → Bool} {L : List α} {i : Nat} {x : α} (h1 : L[i]? = some x) (h2 : p x = true) (h3 : ∀ (j : Nat) y, j < i → L[j]? = some y → p y = false) : L.find? p = some x := by
  rw [List.find?_eq_some_iff_getElem]
  have hil := (List.getElem?_eq_some_iff.1 h1).1
  refine ⟨h2, i, hil, by rw [List.getElem?_eq_getElem hil] at h1; injection h1, fun j hji => ?_⟩
  rw [h3 j _ hji (List.getElem?_eq_getElem (by omega))]; rfl
theorem find_none_of {α : Type} {p : α → Bool} {L : List α} (h : ∀ (j : Nat) y, L[j]? = some y → p y = false) : L.find? p = none := by
  rw [List.find?_eq_none]
  intro x hx
  obtain ⟨j, hj⟩ := List.mem_iff_getElem?.1 hx
  simp [h j x hj]
theorem hasI_false {xs : List Int} {z : Int} (h : ∀ (j : Nat) y, xs[j]? = some y → (y == z) = false) : hasI xs z = false := by
  unfold hasI
  rw [List.any_eq_false]
  intro y hy
  obtain ⟨j, hj⟩ := List.mem_iff_getElem?.1 hy
  have := h j y hj
  simp at this ⊢
  exact fun e => this e.symm
theorem hasI_true {xs : List Int} {z : Int} {j : Nat} (h : xs[j]? = some z) : hasI xs z = true := by
  unfold hasI
  rw [List.any_eq_true]
  exact ⟨z, List.mem_of_getElem? h, by simp⟩

set_option maxHeartbeats 6400000 in
set_option maxRecDepth 100000 in
theorem rshOf_any (b : Nat) (v : Value) (last : Int) (L : List Sh) (id : Int) (hx : L.length < 1000000) (hi : IdOk L) (w : World) (h : RhT w b v last L) :
    Calls Try.prog 48 #[.pointer (some ⟨b, 0, none⟩), .int .i64 id] w fun e w' => e = .returned (.int .i64 (ofM L id)) ∧ w = w' := by
  obtain ⟨a, cap, rfl⟩ := h.ob.row.val
  obtain ⟨n, hn⟩ : ∃ n, n = L.length := ⟨_, rfl⟩
  rw [← hn] at h
  have hcv : w.cell? ⟨b, 1, none⟩ = some (.slice a n cap) := h.ob.blk.cell 1
  have HN := Lib.hid hn; have HT := Lib.hid h; have HI := Lib.hid hi
  have hn1 : n < 1000000 := by omega
  clear hn hx h hi
  go_enter Try.func48, Try.ntmps48
  go_wp2_with fail
  go_loop [5] (fun iv => ∃ (k : Nat), k ≤ n ∧ iv = .int .i64 k ∧ Hid (∀ (j : Nat) x, j < k → L[j]? = some x → holds id x = false)) (fun iv => n - (intOf iv).toNat)
  case atStart => exact ⟨0, Nat.zero_le _, rfl, fun j x hj => absurd hj (Nat.not_lt_zero _)⟩
  case round =>
    obtain ⟨k, hkn, rfl, hall⟩ := hrel
    by_cases hlt : k < n
    · obtain ⟨x, hxk⟩ : ∃ x, L[k]? = some x := ⟨_, List.getElem?_eq_getElem (by rw [← HN.out]; exact hlt)⟩
      have d1 : decide (k < n) = true := decide_eq_true hlt
      have hr := HT.out.ob.row
      obtain ⟨gb, rfl, hgl⟩ := hr.addr (by omega)
      have c0 := hr.cell encSh_ok.len hxk 0 (by omega)
      have c6 := hr.cell encSh_ok.len hxk 6 (by omega)
      simp only [encSh, Sh.row, Nat.add_zero, List.getElem?_cons_zero, List.getElem?_cons_succ] at c0 c6
      have b1 : (0 : Int) ≤ (k : Int) := by omega
      have b2 : (k : Int) < (n : Int) := by omega
      have hxm := List.mem_of_getElem? hxk
      have hri := HT.out.inn x hxm
      have hxl := HI.out x hxm
      unfold Sh.row at hri
      obtain ⟨l, hl⟩ : ∃ l, l = x.ids.length := ⟨_, rfl⟩
      rw [← hl] at c6 hri hxl
      have HXK := Lib.hid hxk; have HRI := Lib.hid hri; have HL := Lib.hid hl
      clear hr hxk hri hl hxm
      go_wp2_with fail
      go_loop [6] (fun jv => ∃ (j : Nat), j ≤ l ∧ jv = .int .i64 j ∧ Hid (∀ (q : Nat) y, q < j → x.ids[q]? = some y → (y == id) = false)) (fun jv => l - (intOf jv).toNat)
      case atStart => exact ⟨0, Nat.zero_le _, rfl, fun j x hj => absurd hj (Nat.not_lt_zero _)⟩
      case round =>
        obtain ⟨j, hjl, rfl, hall2⟩ := hrel
        by_cases hjt : j < l
        · have d2 : decide (j < l) = true := decide_eq_true hjt
          obtain ⟨y, hy⟩ : ∃ y, x.ids[j]? = some y := ⟨_, List.getElem?_eq_getElem (by rw [← HL.out]; exact hjt)⟩
          obtain ⟨ig, hma, hig⟩ := HRI.out.addr (by omega)
          rw [hma] at c6
          have hri2 := HRI.out
          rw [hma] at hri2
          have i0 := hri2.cell encI_ok.len hy 0 (by omega)
          simp only [encI, Nat.add_zero, Nat.mul_one, List.getElem?_cons_zero] at i0
          have b3 : (0 : Int) ≤ (j : Int) := by omega
          have b4 : (j : Int) < (l : Int) := by omega
          have HY := Lib.hid hy
          clear hy hma hri2
          cases hq : (y == id)
          · have HQ := Lib.hid hq
            go_wp2_with fail
            refine ⟨⟨j + 1, by omega, rfl, ?_⟩, by simp [intOf]; omega⟩
            intro q z hqj hz
            rcases Nat.lt_or_ge q j with h1 | h1
            · exact hall2.out q z h1 hz
            · have : q = j := by omega
              rw [this, HY.out] at hz
              injection hz with hz
              rw [← hz]; exact HQ.out
          · have hm : ofM L id = x.num := by
              have hye : y = id := by simpa using hq
              have hh : holds id x = true := by unfold holds; exact hasI_true (by rw [← hye]; exact HY.out)
              unfold ofM
              rw [find_some_of HXK.out hh hall.out]; rfl
            have HM := Lib.hid hm
            clear hm
            go_wp2_with fail
            go_ret
            exact ⟨ret_int HM.out, rfl⟩
        · have d2 : decide (j < l) = false := decide_eq_false hjt
          have hh : holds id x = false := by
            unfold holds
            exact hasI_false (fun q y hy => hall2.out q y (by have := (List.getElem?_eq_some_iff.1 hy).1; have := HL.out; omega) hy)
          have HHO := Lib.hid hh
          clear hh
          go_wp2_with fail
          refine ⟨⟨k + 1, by omega, rfl, ?_⟩, by simp [intOf]; omega⟩
          intro q z hqk hz
          rcases Nat.lt_or_ge q k with h1 | h1
          · exact hall.out q z h1 hz
          · have : q = k := by omega
            rw [this, HXK.out] at hz
            injection hz with hz
            rw [← hz]; exact HHO.out
    · have d1 : decide (k < n) = false := decide_eq_false hlt
      have hm : ofM L id = 0 := by
        unfold ofM
        rw [find_none_of (fun j x hx => hall.out j x (by have := (List.getElem?_eq_some_iff.1 hx).1; have := HN.out; omega) hx)]; rfl
      have HM := Lib.hid hm
      clear hm
      go_wp2_with fail
      go_ret
      exact ⟨ret_int HM.out, rfl⟩
end Go.Proofs.Ytkbjpackijdnkaa
