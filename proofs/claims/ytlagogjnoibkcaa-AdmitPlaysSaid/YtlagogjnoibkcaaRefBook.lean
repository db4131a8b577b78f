/- The document's book, by contract. -/
import Derived.Test.YtlagogjnoibkcaaBookO
import Derived.Test.YtlagogjnoibkcaaWLast
namespace Go.Proofs.Ytlagogjnoibkcaa
open Go.RowKit Go.Proofs.YtlagogjnoibkcaaW.PrintLast
set_option linter.unusedVariables false
set_option linter.unusedSimpArgs false

theorem tyRm : ETy Try.prog 36 71 3 := ⟨by kernel_rfl, ⟨Try.t71, _, by kernel_rfl, by rfl, by rfl, by decide, by rfl⟩, by decide⟩
abbrev Rk := @Ob Ad encAd 3 71 (fun v => #[v]) 38
abbrev RO := @OO Ad encAd 3 71 (fun v => #[v]) 38

set_option maxHeartbeats 800000 in
theorem ro_new (w : World) : Calls Try.prog 12 #[] w fun e w' => e = .returned (.pointer (some ⟨w.heap.size, 0, none⟩)) ∧ RO w' w.heap.size [w.heap.size] [] ∧ Ext [] w w' := by
  go_enter Try.func12, Try.ntmps12
  go_wp2_with fail
  go_ret
  exact ⟨rfl, ⟨_, ⟨Blk.new _ _ _, Rw.nil _, by simp [Value.ownBlock]⟩, rfl⟩, (Ext.refl _ _).alloc _⟩

set_option maxHeartbeats 1600000 in
theorem ro_has (b : Nat) (S : List Nat) (xs : List Ad) (id : Int) (hx : xs.length < 1000000) (w : World) (h : RO w b S xs) :
    Calls Try.prog 24 #[.pointer (some ⟨b, 0, none⟩), .int .i64 id] w fun e w' => e = .returned (.bool (xs.any (sameId id))) ∧ w = w' := by
  obtain ⟨v, h, rfl⟩ := h
  obtain ⟨a, cap, rfl⟩ := h.row.val
  obtain ⟨n, hn⟩ : ∃ n, n = xs.length := ⟨_, rfl⟩
  rw [← hn] at h
  have hcv : w.cell? ⟨b, 0, none⟩ = some (.slice a n cap) := h.blk.cell 0
  have hr := h.row
  have HN := Lib.hid hn
  have hn1 : n < 1000000 := by omega
  clear hn hx h
  go_enter Try.func24, Try.ntmps24
  go_wp2_with fail
  go_loop [5] (fun iv => ∃ (k : Nat), k ≤ n ∧ iv = .int .i64 k ∧ Hid (∀ (j : Nat) x, j < k → xs[j]? = some x → sameId id x = false)) (fun iv => n - (intOf iv).toNat)
  case atStart => exact ⟨0, Nat.zero_le _, rfl, fun j x hj => absurd hj (Nat.not_lt_zero _)⟩
  case round =>
    obtain ⟨k, hkn, rfl, hall⟩ := hrel
    by_cases hlt : k < n
    · obtain ⟨x, hxk⟩ : ∃ x, xs[k]? = some x := ⟨_, List.getElem?_eq_getElem (by rw [← HN.out]; exact hlt)⟩
      have d1 : decide (k < n) = true := decide_eq_true hlt
      obtain ⟨gb, rfl, hgl⟩ := hr.addr (by omega)
      have hx0 := hr.cell encAd_ok.len hxk 0 (by omega)
      simp only [encAd, Nat.add_zero, List.getElem?_cons_zero, List.getElem?_cons_succ] at hx0
      have b1 : (0 : Int) ≤ (k : Int) := by omega
      have b2 : (k : Int) < (n : Int) := by omega
      have HXK := Lib.hid hxk
      clear hr hxk
      cases hq : (x.id == id)
      · go_wp2_with fail
        refine ⟨⟨k + 1, by omega, rfl, ?_⟩, by simp [intOf]; omega⟩
        intro j y hj hy
        rcases Nat.lt_or_ge j k with h1 | h1
        · exact hall.out j y h1 hy
        · have : j = k := by omega
          rw [this, HXK.out] at hy
          injection hy with hy
          rw [← hy]; exact hq
      · go_wp2_with fail
        go_ret
        refine ⟨ret_bool ?_, rfl⟩
        rw [List.any_eq_true]; exact ⟨x, List.mem_of_getElem? HXK.out, hq⟩
    · have d1 : decide (k < n) = false := decide_eq_false hlt
      go_wp2_with fail
      go_ret
      refine ⟨ret_bool ?_, rfl⟩
      rw [List.any_eq_false]
      intro x hx
      obtain ⟨j, hj, rfl⟩ := List.mem_iff_getElem.1 hx
      rw [hall.out j _ (by have := HN.out; omega) (List.getElem?_eq_getElem hj)]; simp

set_option maxHeartbeats 1600000 in
theorem ro_host (b : Nat) (S : List Nat) (xs : List Ad) (z : ByteArray) (hx : xs.length < 1000000) (w : World) (h : RO w b S xs) :
    Calls Try.prog 20 #[.pointer (some ⟨b, 0, none⟩), .string z] w fun e w' => e = .returned (.int .i64 (xs.filter (sameKey z)).length) ∧ w = w' := by
  obtain ⟨v, h, rfl⟩ := h
  obtain ⟨a, cap, rfl⟩ := h.row.val
  obtain ⟨n, hn⟩ : ∃ n, n = xs.length := ⟨_, rfl⟩
  rw [← hn] at h
  have hcv : w.cell? ⟨b, 0, none⟩ = some (.slice a n cap) := h.blk.cell 0
  have hr := h.row
  have HN := Lib.hid hn
  have hn1 : n < 1000000 := by omega
  clear hn hx h
  go_enter Try.func20, Try.ntmps20
  go_wp2_with fail
  go_loop [5, 6] (fun c iv => ∃ (k : Nat), k ≤ n ∧ iv = .int .i64 k ∧ c = .int .i64 ((xs.take k).filter (sameKey z)).length) (fun _ iv => n - (intOf iv).toNat)
  case atStart => exact ⟨0, Nat.zero_le _, rfl, rfl⟩
  case round =>
    obtain ⟨k, hkn, rfl, rfl⟩ := hrel
    by_cases hlt : k < n
    · obtain ⟨x, hxk⟩ : ∃ x, xs[k]? = some x := ⟨_, List.getElem?_eq_getElem (by rw [← HN.out]; exact hlt)⟩
      have d1 : decide (k < n) = true := decide_eq_true hlt
      obtain ⟨gb, rfl, hgl⟩ := hr.addr (by omega)
      have hx0 := hr.cell encAd_ok.len hxk 2 (by omega)
      simp only [encAd, Nat.add_zero, List.getElem?_cons_zero, List.getElem?_cons_succ] at hx0
      have b1 : (0 : Int) ≤ (k : Int) := by omega
      have b2 : (k : Int) < (n : Int) := by omega
      have hfl : ((xs.take (k + 1)).filter (sameKey z)).length = ((xs.take k).filter (sameKey z)).length + (if sameKey z x = true then 1 else 0) := by
        rw [List.take_add_one, hxk, List.filter_append, List.length_append]
        simp only [Option.toList, List.filter_cons, List.filter_nil]
        split <;> simp
      have hbd : ((xs.take k).filter (sameKey z)).length ≤ k := by
        have h1 := List.length_filter_le (sameKey z) (xs.take k); have h2 := List.length_take_le k xs; omega
      have hpe : sameKey z x = (x.key.toList==z.toList) := (bytes_beq x.key z).symm
      rw [hpe] at hfl
      have HFL := Lib.hid hfl
      have HXK := Lib.hid hxk
      clear hr hxk hfl hpe
      generalize ((xs.take k).filter (sameKey z)).length = c at *
      cases hq : (x.key.toList==z.toList)
      all_goals
        rw [hq] at HFL
        go_wp2_with fail
        refine ⟨⟨k + 1, by omega, rfl, ?_⟩, by simp [intOf]; omega⟩
        rw [HFL.out]; simp
    · have d1 : decide (k < n) = false := decide_eq_false hlt
      go_wp2_with fail
      go_ret
      refine ⟨ret_int ?_, rfl⟩
      rw [List.take_of_length_le (by have := HN.out; omega)]

set_option maxHeartbeats 1600000 in
theorem ro_group (b : Nat) (S : List Nat) (xs : List Ad) (z : Int) (hx : xs.length < 1000000) (w : World) (h : RO w b S xs) :
    Calls Try.prog 22 #[.pointer (some ⟨b, 0, none⟩), .int .i64 z] w fun e w' => e = .returned (.int .i64 (xs.filter (sameGroup z)).length) ∧ w = w' := by
  obtain ⟨v, h, rfl⟩ := h
  obtain ⟨a, cap, rfl⟩ := h.row.val
  obtain ⟨n, hn⟩ : ∃ n, n = xs.length := ⟨_, rfl⟩
  rw [← hn] at h
  have hcv : w.cell? ⟨b, 0, none⟩ = some (.slice a n cap) := h.blk.cell 0
  have hr := h.row
  have HN := Lib.hid hn
  have hn1 : n < 1000000 := by omega
  clear hn hx h
  go_enter Try.func22, Try.ntmps22
  go_wp2_with fail
  go_loop [5, 6] (fun c iv => ∃ (k : Nat), k ≤ n ∧ iv = .int .i64 k ∧ c = .int .i64 ((xs.take k).filter (sameGroup z)).length) (fun _ iv => n - (intOf iv).toNat)
  case atStart => exact ⟨0, Nat.zero_le _, rfl, rfl⟩
  case round =>
    obtain ⟨k, hkn, rfl, rfl⟩ := hrel
    by_cases hlt : k < n
    · obtain ⟨x, hxk⟩ : ∃ x, xs[k]? = some x := ⟨_, List.getElem?_eq_getElem (by rw [← HN.out]; exact hlt)⟩
      have d1 : decide (k < n) = true := decide_eq_true hlt
      obtain ⟨gb, rfl, hgl⟩ := hr.addr (by omega)
      have hx0 := hr.cell encAd_ok.len hxk 1 (by omega)
      simp only [encAd, Nat.add_zero, List.getElem?_cons_zero, List.getElem?_cons_succ] at hx0
      have b1 : (0 : Int) ≤ (k : Int) := by omega
      have b2 : (k : Int) < (n : Int) := by omega
      have hfl : ((xs.take (k + 1)).filter (sameGroup z)).length = ((xs.take k).filter (sameGroup z)).length + (if sameGroup z x = true then 1 else 0) := by
        rw [List.take_add_one, hxk, List.filter_append, List.length_append]
        simp only [Option.toList, List.filter_cons, List.filter_nil]
        split <;> simp
      have hbd : ((xs.take k).filter (sameGroup z)).length ≤ k := by
        have h1 := List.length_filter_le (sameGroup z) (xs.take k); have h2 := List.length_take_le k xs; omega
      have hpe : sameGroup z x = (x.group==z) := rfl
      rw [hpe] at hfl
      have HFL := Lib.hid hfl
      have HXK := Lib.hid hxk
      clear hr hxk hfl hpe
      generalize ((xs.take k).filter (sameGroup z)).length = c at *
      cases hq : (x.group==z)
      all_goals
        rw [hq] at HFL
        go_wp2_with fail
        refine ⟨⟨k + 1, by omega, rfl, ?_⟩, by simp [intOf]; omega⟩
        rw [HFL.out]; simp
    · have d1 : decide (k < n) = false := decide_eq_false hlt
      go_wp2_with fail
      go_ret
      refine ⟨ret_int ?_, rfl⟩
      rw [List.take_of_length_le (by have := HN.out; omega)]


set_option maxHeartbeats 3200000 in
set_option maxRecDepth 100000 in
theorem ro_give (b : Nat) (S : List Nat) (xs : List Ad) (id : Int) (hx : xs.length < 100000) (w : World) (h : RO w b S xs) :
    Calls Try.prog 15 #[.pointer (some ⟨b, 0, none⟩), .int .i64 id] w fun e w' =>
      e = .returned (.bool (xs.any (sameId id))) ∧ Chg (fun w' S' => RO w' b S' (giveL xs id)) S w w' := by
  obtain ⟨v, h, rfl⟩ := h
  obtain ⟨a, cap, rfl⟩ := h.row.val
  obtain ⟨n, hn⟩ : ∃ n, n = xs.length := ⟨_, rfl⟩
  rw [← hn] at h ⊢
  have hcv : w.cell? ⟨b, 0, none⟩ = some (.slice a n cap) := h.blk.cell 0
  have HH := Lib.hid h
  have HN := Lib.hid hn
  have hn1 : n < 100000 := by omega
  clear hn hx h
  go_enter Try.func15, Try.ntmps15
  go_wp2_with fail
  go_loop [5] (fun iv => ∃ (k : Nat), k ≤ n ∧ iv = .int .i64 k ∧ Hid (∀ (j : Nat) x, j < k → xs[j]? = some x → sameId id x = false)) (fun iv => n - (intOf iv).toNat)
  case atStart => exact ⟨0, Nat.zero_le _, rfl, fun j x hj => absurd hj (Nat.not_lt_zero _)⟩
  case round =>
    obtain ⟨k, hkn, rfl, hall⟩ := hrel
    by_cases hlt : k < n
    · obtain ⟨x, hxk⟩ : ∃ x, xs[k]? = some x := ⟨_, List.getElem?_eq_getElem (by rw [← HN.out]; exact hlt)⟩
      have d1 : decide (k < n) = true := decide_eq_true hlt
      obtain ⟨gb, rfl, hgl⟩ := HH.out.row.addr (by omega)
      have hx0 := HH.out.row.cell encAd_ok.len hxk 0 (by omega)
      simp only [encAd, Nat.add_zero, List.getElem?_cons_zero, List.getElem?_cons_succ] at hx0
      have b1 : (0 : Int) ≤ (k : Int) := by omega
      have b2 : (k : Int) < (n : Int) := by omega
      have HXK := Lib.hid hxk
      clear hxk
      cases hq : (x.id == id)
      · go_wp2_with fail
        refine ⟨⟨k + 1, by omega, rfl, ?_⟩, by simp [intOf]; omega⟩
        intro j y hj hy
        rcases Nat.lt_or_ge j k with h1 | h1
        · exact hall.out j y h1 hy
        · have : j = k := by omega
          rw [this, HXK.out] at hy
          injection hy with hy
          rw [← hy]; exact hq
      · have hcap : n ≤ cap := HH.out.row.cap_le
        have hlb := HH.out.blk.lt
        go_wp2_with fail
        have hgive : giveL xs id = xs.take k ++ xs.drop (k + 1) := by
          unfold giveL; rw [eraseP_at HXK.out hq hall.out, List.eraseIdx_eq_take_drop_succ]
        have HG := Lib.hid hgive
        have HQ := Lib.hid hq
        clear hq hgive hall
        have hsa := HH.out.row.drew.takeSl encAd_ok.len (i := k) (by omega) cap
        have hl1 : LenIs ([] : List Ad) (xs.take k) k := by unfold LenIs; rw [List.length_take]; have := HN.out; simp; omega
        have hl2 : LenIs (xs.take k) (xs.drop (k + 1)) (n - 1) := by unfold LenIs; rw [List.length_take, List.length_drop]; have := HN.out; omega
        have hgo : ∀ v' : Value, v' = .slice none 0 0 → ∀ g, v'.ownBlock = some g → w.heap.size ≤ g := by intro v' h g hg; subst h; simp [Value.ownBlock] at hg
        have HLB := Lib.hid hlb; have HL1 := Lib.hid hl1; have HL2 := Lib.hid hl2; have HSA := Lib.hid hsa; have HCV := Lib.hid hcv
        clear hl1 hl2 hsa hgo
        have hsb : Sl encAd w.drew (.slice (if cap = k + 1 then some ⟨gb, 0, none⟩ else some ⟨gb, (k + 1) * 3, none⟩) (n - (k + 1)) (cap - (k + 1))) (xs.drop (k + 1)) := HH.out.row.drew.tailSl encAd_ok.len (i := k + 1) (by omega)
        have HSB := Lib.hid hsb
        clear hsb
        have f1 : (k : Int) ≤ (cap : Int) := by omega
        have f2 : (k : Int) + 1 ≤ (n : Int) := by omega
        have f3 : (0 : Int) ≤ (k : Int) + 1 := by omega
        have f4 : ((k : Int) + 1).toNat = k + 1 := by omega
        have f5 : wrap64 ((k : Int) + 1) = (k : Int) + 1 := by unfold wrap64; omega
        refine start_ (n := 19) (S := fun w' => w'.cell? ⟨b, 0, none⟩ = some (.slice (some ⟨gb, 0, none⟩) n cap)) (ds := [18]) #[false, false, false, false, false, false, false, false, false, false, false, false, false, false, false, false, false, false, false] (by kernel_rfl) rfl rfl (hcv) (fun hHeld => ?_)
        refine pure_ (i := 0) (N := some 25) (v := ?_) (a' := ?_) #[true, false, false, false, false, false, false, false, false, false, false, false, false, false, false, false, false, false, false] rfl rfl (by kernel_rfl) (fun _ _ _ h => h) (Or.inl ⟨by rfl, ?_⟩) ?_ ?_
        rotate_left
        · intro w'
          go_simp
          with_reducible rfl
        rotate_left
        · simp only [Act.put, List.setIfInBounds_toArray, List.set_cons_zero, List.set_cons_succ, i64_w, i32_w]
          rfl
        refine pure_ (i := 1) (N := some 26) (v := ?_) (a' := ?_) #[true, true, false, false, false, false, false, false, false, false, false, false, false, false, false, false, false, false, false] rfl rfl (by kernel_rfl) (fun _ _ _ h => h) (Or.inl ⟨by rfl, ?_⟩) ?_ ?_
        rotate_left
        · intro w'
          go_simp
          with_reducible rfl
        rotate_left
        · simp only [Act.put, List.setIfInBounds_toArray, List.set_cons_zero, List.set_cons_succ, i64_w, i32_w]
          rfl
        refine pure_ (i := 2) (N := some 27) (v := ?_) (a' := ?_) #[true, true, true, false, false, false, false, false, false, false, false, false, false, false, false, false, false, false, false] rfl rfl (by kernel_rfl) (fun _ _ _ h => h) (Or.inl ⟨by rfl, ?_⟩) ?_ ?_
        rotate_left
        · intro w'
          go_simp
          with_reducible rfl
        rotate_left
        · simp only [Act.put, List.setIfInBounds_toArray, List.set_cons_zero, List.set_cons_succ, i64_w, i32_w]
          rfl
        refine pure_ (i := 3) (N := some 28) (v := ?_) (a' := ?_) #[true, true, true, true, false, false, false, false, false, false, false, false, false, false, false, false, false, false, false] rfl rfl (by kernel_rfl) (fun _ _ _ h => h) (Or.inl ⟨by rfl, ?_⟩) ?_ ?_
        rotate_left
        · intro w'
          go_simp
          with_reducible rfl
        rotate_left
        · simp only [Act.put, List.setIfInBounds_toArray, List.set_cons_zero, List.set_cons_succ, i64_w, i32_w]
          rfl
        refine pure_ (i := 5) (N := some 30) (v := ?_) (a' := ?_) #[true, true, true, true, false, true, false, false, false, false, false, false, false, false, false, false, false, false, false] rfl rfl (by kernel_rfl) (fun _ _ _ h => h) (Or.inl ⟨by rfl, ?_⟩) ?_ ?_
        rotate_left
        · intro w'
          go_simp
          with_reducible rfl
        rotate_left
        · simp only [Act.put, List.setIfInBounds_toArray, List.set_cons_zero, List.set_cons_succ, i64_w, i32_w]
          rfl
        refine pure_ (i := 8) (N := some 33) (v := ?_) (a' := ?_) #[true, true, true, true, false, true, false, false, true, false, false, false, false, false, false, false, false, false, false] rfl rfl (by kernel_rfl) (fun _ _ _ h => h) (Or.inl ⟨by rfl, ?_⟩) ?_ ?_
        rotate_left
        · intro w'
          go_simp
          with_reducible rfl
        rotate_left
        · simp only [Act.put, List.setIfInBounds_toArray, List.set_cons_zero, List.set_cons_succ, i64_w, i32_w]
          rfl
        refine pure_ (i := 9) (N := some 34) (v := ?_) (a' := ?_) #[true, true, true, true, false, true, false, false, true, true, false, false, false, false, false, false, false, false, false] rfl rfl (by kernel_rfl) (fun _ _ _ h => h) (Or.inl ⟨by rfl, ?_⟩) ?_ ?_
        rotate_left
        · intro w'
          go_simp
          with_reducible rfl
        rotate_left
        · simp only [Act.put, List.setIfInBounds_toArray, List.set_cons_zero, List.set_cons_succ, i64_w, i32_w]
          rfl
        refine pure_ (i := 10) (N := some 35) (v := ?_) (a' := ?_) #[true, true, true, true, false, true, false, false, true, true, true, false, false, false, false, false, false, false, false] rfl rfl (by kernel_rfl) (fun _ _ _ h => h) (Or.inl ⟨by rfl, ?_⟩) ?_ ?_
        rotate_left
        · intro w'
          go_simp
          with_reducible rfl
        rotate_left
        · simp only [Act.put, List.setIfInBounds_toArray, List.set_cons_zero, List.set_cons_succ, i64_w, i32_w]
          rfl
        refine pure_ (i := 12) (N := some 37) (v := ?_) (a' := ?_) #[true, true, true, true, false, true, false, false, true, true, true, false, true, false, false, false, false, false, false] rfl rfl (by kernel_rfl) (fun _ _ _ h => h) (Or.inl ⟨by rfl, ?_⟩) ?_ ?_
        rotate_left
        · intro w'
          go_simp
          with_reducible rfl
        rotate_left
        · simp only [Act.put, List.setIfInBounds_toArray, List.set_cons_zero, List.set_cons_succ, i64_w, i32_w]
          rfl
        refine pure_ (i := 13) (N := some 38) (v := ?_) (a' := ?_) #[true, true, true, true, false, true, false, false, true, true, true, false, true, true, false, false, false, false, false] rfl rfl (by kernel_rfl) (fun _ _ _ h => h) (Or.inl ⟨by rfl, ?_⟩) ?_ ?_
        rotate_left
        · intro w'
          go_simp
          with_reducible rfl
        rotate_left
        · simp only [Act.put, List.setIfInBounds_toArray, List.set_cons_zero, List.set_cons_succ, i64_w, i32_w]
          rfl
        refine take_ (i := 4) (N := some 29) (v := ?_) (a' := ?_) #[true, true, true, true, true, true, false, false, true, true, true, false, true, true, false, false, false, false, false] rfl rfl (by kernel_rfl) (fun _ _ _ h => h) (Or.inl ⟨by rfl, ?_⟩) hHeld ?_ ?_
        rotate_left
        · intro w' s0
          go_simp
          with_reducible rfl
        rotate_left
        · simp only [Act.put, List.setIfInBounds_toArray, List.set_cons_zero, List.set_cons_succ, i64_w, i32_w]
          rfl
        refine pure_ (i := 6) (N := some 31) (v := ?_) (a' := ?_) #[true, true, true, true, true, true, true, false, true, true, true, false, true, true, false, false, false, false, false] rfl rfl (by kernel_rfl) (fun _ _ _ h => h) (Or.inl ⟨by rfl, ?_⟩) ?_ ?_
        rotate_left
        · intro w'
          go_simp
          with_reducible rfl
        rotate_left
        · simp only [Act.put, List.setIfInBounds_toArray, List.set_cons_zero, List.set_cons_succ, i64_w, i32_w]
          rfl
        refine take_ (i := 11) (N := some 36) (v := ?_) (a' := ?_) #[true, true, true, true, true, true, true, false, true, true, true, true, true, true, false, false, false, false, false] rfl rfl (by kernel_rfl) (fun _ _ _ h => h) (Or.inl ⟨by rfl, ?_⟩) hHeld ?_ ?_
        rotate_left
        · intro w' s0
          go_simp
          with_reducible rfl
        rotate_left
        · simp only [Act.put, List.setIfInBounds_toArray, List.set_cons_zero, List.set_cons_succ, i64_w, i32_w]
          rfl
        refine pure_ (i := 14) (N := some 39) (v := ?_) (a' := ?_) #[true, true, true, true, true, true, true, false, true, true, true, true, true, true, true, false, false, false, false] rfl rfl (by kernel_rfl) (fun _ _ _ h => h) (Or.inl ⟨by rfl, ?_⟩) ?_ ?_
        rotate_left
        · intro w'
          go_simp
          with_reducible rfl
        rotate_left
        · simp only [Act.put, List.setIfInBounds_toArray, List.set_cons_zero, List.set_cons_succ, i64_w, i32_w]
          rfl
        refine one_ (i := 7) (N := some 32) #[true, true, true, true, true, true, true, true, true, true, true, true, true, true, true, false, false, false, false] rfl rfl (by kernel_rfl) (by decide) (fun K hK => ?_)
        refine step_appN tyRm encAd_ok (by rfl) _ _ (by rfl) (Rw.nil w.drew) (by rfl) HSA.out (by rfl) HL1.out (by omega) ?_
        intro a1 c1 w1 hr1 hS1 hg1
        have he1 : Ext [] w w1 := Ext.of_drew (hS1 [] (by simp [Value.ownBlock]))
        have hg1' : ∀ g, (Value.slice a1 k c1).ownBlock = some g → w.heap.size ≤ g := fun g hg => (hg1 g hg).elim (fun h => by simp [Value.ownBlock] at h) (fun h => h)
        rw [List.nil_append] at hr1
        clear hS1 hg1
        refine hK.out _ _ (((he1.cell (p := ⟨b, 0, none⟩) HLB.out (by simp)).trans HCV.out)) (fun hHeld => ?_)
        clear hK K
        refine norm_ (a' := ?_) ?_ ?_
        rotate_left
        · show Act.put _ (some 32) _ = _
          simp only [Act.put, List.setIfInBounds_toArray, List.set_cons_zero, List.set_cons_succ, i64_w, i32_w]
          rfl
        refine one_ (i := 15) (N := some 40) #[true, true, true, true, true, true, true, true, true, true, true, true, true, true, true, true, false, false, false] rfl rfl (by kernel_rfl) (by decide) (fun K hK => ?_)
        refine step_appN tyRm encAd_ok (by rfl) _ _ (by rfl) hr1 (by rfl) (HSB.out.keep (Ext.of_drew_left he1) (by simp)) (by rfl) HL2.out (by omega) ?_
        intro a2 c2 w2 hr2 hS2 hg2
        have he2 : Ext [] w w2 := fresh_app he1 hg1' hS2
        have hfz : w2.frozen? ⟨b, 0, none⟩ = false := (he2.frozen (p := ⟨b, 0, none⟩) HLB.out (by simp)).trans (HH.out.blk.free 0)
        refine hK.out _ _ (((he2.cell (p := ⟨b, 0, none⟩) HLB.out (by simp)).trans HCV.out)) (fun hHeld => ?_)
        clear hK K
        refine norm_ (a' := ?_) ?_ ?_
        rotate_left
        · show Act.put _ (some 40) _ = _
          simp only [Act.put, List.setIfInBounds_toArray, List.set_cons_zero, List.set_cons_succ, i64_w, i32_w]
          rfl
        refine pure_ (i := 16) (N := some 41) (v := ?_) (a' := ?_) #[true, true, true, true, true, true, true, true, true, true, true, true, true, true, true, true, true, false, false] rfl rfl (by kernel_rfl) (fun _ _ _ h => h) (Or.inl ⟨by rfl, ?_⟩) ?_ ?_
        rotate_left
        · intro w'
          go_simp
          with_reducible rfl
        rotate_left
        · simp only [Act.put, List.setIfInBounds_toArray, List.set_cons_zero, List.set_cons_succ, i64_w, i32_w]
          rfl
        refine pure_ (i := 17) (N := some 42) (v := ?_) (a' := ?_) #[true, true, true, true, true, true, true, true, true, true, true, true, true, true, true, true, true, true, false] rfl rfl (by kernel_rfl) (fun _ _ _ h => h) (Or.inl ⟨by rfl, ?_⟩) ?_ ?_
        rotate_left
        · intro w'
          go_simp
          with_reducible rfl
        rotate_left
        · simp only [Act.put, List.setIfInBounds_toArray, List.set_cons_zero, List.set_cons_succ, i64_w, i32_w]
          rfl
        refine last_ (i := 18) (N := none) #[true, true, true, true, true, true, true, true, true, true, true, true, true, true, true, true, true, true, true] rfl rfl (by kernel_rfl) (by decide) (fun K hK => ?_)
        refine skip_ (w1 := ?_) (by rfl) rfl ?_ ?_
        rotate_left
        · go_simp
          rfl
        refine hK.out _ _ ?_
        clear hK K
        refine done_ (by kernel_rfl) ?_
        have hfin := HH.out.replaced he2 hr2 (fun g hg => (hg2 g hg).elim (hg1' g) (fun h => Nat.le_trans he1.size h)) 0 (by simp)
        have HF := Lib.hid hfin
        clear hfin hr1 hr2 hS2 hg2 hg1' f5 f4 f1 f2 f3
        go_wp2_with fail

        all_goals
          go_ret
          rw [HG.out]
          refine ⟨ret_bool ?_, _, ⟨_, HF.out.1, rfl⟩, HF.out.2.1.mono (by simp), HF.out.2.2⟩
          rw [List.any_eq_true]; exact ⟨x, List.mem_of_getElem? HXK.out, HQ.out⟩
    · have d1 : decide (k < n) = false := decide_eq_false hlt
      go_wp2_with fail
      go_ret
      have hno : ∀ x ∈ xs, sameId id x = false := by
        intro x hx
        obtain ⟨j, hj, rfl⟩ := List.mem_iff_getElem.1 hx
        exact hall.out j _ (by have := HN.out; omega) (List.getElem?_eq_getElem hj)
      refine ⟨ret_bool ?_, _, ⟨_, ?_, rfl⟩, Ext.refl _ _, fun x hx => .inl hx⟩
      · rw [List.any_eq_false]; intro x hx; simp [hno x hx]
      · unfold giveL; rw [List.eraseP_of_forall_not (by intro x hx; simp [hno x hx])]; exact HH.out
set_option maxHeartbeats 3200000 in
set_option maxRecDepth 100000 in
theorem rtake_any (b : Nat) (v : Value) (xs : List Ad) (id : Int) (key : ByteArray) (gr : Int) (hx : xs.length < 100000) (w : World) (h : Rk w b v xs) :
    Calls Try.prog 17 #[.pointer (some ⟨b, 0, none⟩), .int .i64 id, .string key, .int .i64 gr] w fun e w' =>
      (takeC xs id key gr ≠ 0 ∧ e = .returned (.int .i64 (takeC xs id key gr)) ∧ w = w') ∨
      (takeC xs id key gr = 0 ∧ e = .returned (.int .i64 0) ∧ ∃ v', Rk w' b v' (xs ++ [⟨id, gr, key⟩]) ∧ Ext (b :: v.ownBlock.toList) w w' ∧ (∀ x ∈ b :: v'.ownBlock.toList, x ∈ b :: v.ownBlock.toList ∨ w.heap.size ≤ x)) := by
  have hlt := h.blk.lt
  have H := Lib.hid h
  have hx' : xs.length < 1000000 := by omega
  have cHas := ro_has b _ xs id hx' w ⟨v, h, rfl⟩
  have cHost := ro_host b _ xs key hx' w ⟨v, h, rfl⟩
  have cGroup := ro_group b _ xs gr hx' w ⟨v, h, rfl⟩
  have CHAS := Lib.hid cHas; have CHOST := Lib.hid cHost; have CGROUP := Lib.hid cGroup
  clear cHas cHost cGroup h
  by_cases c1 : id < 1
  · have hT : takeC xs id key gr = 2 := by unfold takeC; rw [if_pos c1]
    have HT := Lib.hid hT
    clear hT
    go_enter Try.func17, Try.ntmps17
    go_wp2_with fail
    go_ret
    exact Or.inl ⟨by rw [HT.out]; decide, ret_int HT.out, rfl⟩
  cases hh : xs.any (sameId id) with
  | true =>
    have hT : takeC xs id key gr = 16 := by unfold takeC; rw [if_neg c1, if_pos hh]
    have HT := Lib.hid hT
    rw [hh] at CHAS
    clear hT hh
    go_enter Try.func17, Try.ntmps17
    go_wp2_with fail
    refine CHAS.out.mono ?_
    rintro e w1 ⟨rfl, rfl⟩
    go_wp2_with fail
    go_ret
    exact Or.inl ⟨by rw [HT.out]; decide, ret_int HT.out, rfl⟩
  | false =>
    rw [hh] at CHAS
    have hT : takeC xs id key gr = if 64 ≤ xs.length ∨ 24 ≤ (xs.filter (sameKey key)).length ∨ 32 ≤ (xs.filter (sameGroup gr)).length then 10 else 0 := by unfold takeC; rw [if_neg c1, if_neg (by simp [hh])]
    have full : ∀ (h : 64 ≤ xs.length ∨ 24 ≤ (xs.filter (sameKey key)).length ∨ 32 ≤ (xs.filter (sameGroup gr)).length), takeC xs id key gr = 10 := fun h => by rw [hT, if_pos h]
    have FULL := Lib.hid full
    have roomy : ∀ (h : ¬ (64 ≤ xs.length ∨ 24 ≤ (xs.filter (sameKey key)).length ∨ 32 ≤ (xs.filter (sameGroup gr)).length)), takeC xs id key gr = 0 := fun h => by rw [hT, if_neg h]
    have ROOMY := Lib.hid roomy
    obtain ⟨a, cap, rfl⟩ := H.out.row.val
    clear hT hh full roomy
    obtain ⟨n, hn⟩ : ∃ n, n = xs.length := ⟨_, rfl⟩
    obtain ⟨p, hp⟩ : ∃ n, n = (xs.filter (sameKey key)).length := ⟨_, rfl⟩
    obtain ⟨q, hq⟩ : ∃ n, n = (xs.filter (sameGroup gr)).length := ⟨_, rfl⟩
    rw [← hn] at FULL ROOMY hx H ⊢; rw [← hp] at CHOST FULL ROOMY; rw [← hq] at CGROUP FULL ROOMY
    have hcv : w.cell? ⟨b, 0, none⟩ = some (.slice a n cap) := H.out.blk.cell 0
    have HN := Lib.hid hn
    clear hn hp hq hx'
    by_cases c2 : 64 ≤ n
    · have d2 : decide (64 ≤ n) = true := decide_eq_true c2
      go_enter Try.func17, Try.ntmps17
      go_wp2_with fail
      refine CHAS.out.mono ?_
      rintro e w1 ⟨rfl, rfl⟩
      go_wp2_with fail
      go_ret
      exact Or.inl ⟨by rw [FULL.out (.inl c2)]; decide, ret_int (FULL.out (.inl c2)), rfl⟩
    have d2 : decide (64 ≤ n) = false := decide_eq_false c2
    by_cases c3 : 24 ≤ p
    · have d3 : decide (24 ≤ p) = true := decide_eq_true c3
      go_enter Try.func17, Try.ntmps17
      go_wp2_with fail
      refine CHAS.out.mono ?_
      rintro e w1 ⟨rfl, rfl⟩
      go_wp2_with fail
      refine CHOST.out.mono ?_
      rintro e w1 ⟨rfl, rfl⟩
      go_wp2_with fail
      go_ret
      exact Or.inl ⟨by rw [FULL.out (.inr (.inl c3))]; decide, ret_int (FULL.out (.inr (.inl c3))), rfl⟩
    have d3 : decide (24 ≤ p) = false := decide_eq_false c3
    by_cases c4 : 32 ≤ q
    · have d4 : decide (32 ≤ q) = true := decide_eq_true c4
      go_enter Try.func17, Try.ntmps17
      go_wp2_with fail
      refine CHAS.out.mono ?_
      rintro e w1 ⟨rfl, rfl⟩
      go_wp2_with fail
      refine CHOST.out.mono ?_
      rintro e w1 ⟨rfl, rfl⟩
      go_wp2_with fail
      refine CGROUP.out.mono ?_
      rintro e w1 ⟨rfl, rfl⟩
      go_wp2_with fail
      go_ret
      exact Or.inl ⟨by rw [FULL.out (.inr (.inr c4))]; decide, ret_int (FULL.out (.inr (.inr c4))), rfl⟩
    have d4 : decide (32 ≤ q) = false := decide_eq_false c4
    have hz := ROOMY.out (by omega)
    have HZ := Lib.hid hz
    clear hz FULL ROOMY
    have h63 : n + 1 ≤ 1000000 := by omega
    have hlen : LenIs xs [(⟨id, gr, key⟩ : Ad)] (n + 1) := by unfold LenIs; rw [← HN.out]; rfl
    have hsl := Sl.new (enc := encAd) w ⟨id, gr, key⟩ 71
    have hrw := H.out.row.alloc (.cells (encAd ⟨id, gr, key⟩).toArray 71 (0, 0))
    have HSL := Lib.hid hsl; have HRW := Lib.hid hrw
    clear hsl hrw
    go_enter Try.func17, Try.ntmps17
    go_wp2_with fail
    refine CHAS.out.mono ?_
    rintro e w1 ⟨rfl, rfl⟩
    go_wp2_with fail
    refine CHOST.out.mono ?_
    rintro e w1 ⟨rfl, rfl⟩
    go_wp2_with fail
    refine CGROUP.out.mono ?_
    rintro e w1 ⟨rfl, rfl⟩
    clear CHAS CHOST CGROUP
    go_wp2_with (at_builtin; refine wpList_appN tyRm encAd_ok (by rfl) _ _ (by rfl) HRW.out (by rfl) HSL.out (by rfl) hlen h63 ?_)
    intro a' c' w5 hr5 hS5 hg5
    have hb5 := H.out.blk_of ((Ext.refl [] _).alloc _) hS5
    have hcv5 : w5.cell? ⟨b, 0, none⟩ = some (.slice a n cap) := hb5.cell 0
    have hfv5 : w5.frozen? ⟨b, 0, none⟩ = false := hb5.free 0
    have hfin := H.out.appended ((Ext.refl [] _).alloc _) hr5 hS5 (fun g hg => (hg5 g hg).imp_right (fun h => by omega)) 0 (by simp)
    have HF := Lib.hid hfin
    clear hfin hb5 hr5 hS5 hg5 hcv
    go_wp2_with fail
    go_ret
    exact Or.inr ⟨HZ.out, rfl, _, HF.out⟩

theorem ro_take (b : Nat) (S : List Nat) (xs : List Ad) (id : Int) (key : ByteArray) (g : Int) (hx : xs.length < 100000) (w : World) (h : RO w b S xs) :
    Calls Try.prog 17 #[.pointer (some ⟨b, 0, none⟩), .int .i64 id, .string key, .int .i64 g] w fun e w' =>
      e = .returned (.int .i64 (takeC xs id key g)) ∧ Chg (fun w' S' => RO w' b S' (bookOf xs id key g)) S w w' := by
  obtain ⟨v, h, rfl⟩ := h
  refine (rtake_any b v xs id key g hx w h).mono ?_
  rintro e w' (⟨h1, h2, rfl⟩ | ⟨h1, h2, v', h3, h4, h5⟩)
  · exact ⟨h2, _, ⟨v, by unfold bookOf; rw [if_neg h1]; exact h, rfl⟩, Ext.refl _ _, fun x hx => .inl hx⟩
  · exact ⟨by rw [h2, h1], _, ⟨v', by unfold bookOf; rw [if_pos h1]; exact h3, rfl⟩, h4, h5⟩
end Go.Proofs.Ytlagogjnoibkcaa
