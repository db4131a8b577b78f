/- The document's groups: Join, by contract. -/
import Derived.Test.YtlagogjnoibkcaaRGr4
namespace Go.Proofs.Ytlagogjnoibkcaa
open Go.RowKit Go.Proofs.YtlagogjnoibkcaaW.PrintLast
set_option linter.unusedVariables false
set_option linter.unusedSimpArgs false

/-- z stands at k. -/
def bub (xs : List Int) (z : Int) (k : Nat) : List Int := xs.take k ++ z :: xs.drop k
theorem bub_len {xs : List Int} {z : Int} {k : Nat} (h : k ≤ xs.length) : (bub xs z k).length = xs.length + 1 := by
  unfold bub; rw [List.length_append, List.length_cons, List.length_take, List.length_drop]; omega
theorem bub_at {xs : List Int} {z : Int} {k : Nat} (h : k ≤ xs.length) : (bub xs z k)[k]? = some z := by
  unfold bub
  have hl : (xs.take k).length = k := by rw [List.length_take]; omega
  rw [List.getElem?_append_right (by omega), hl, Nat.sub_self]; rfl
theorem bub_prev {xs : List Int} {z y : Int} {k : Nat} (h : xs[k]? = some y) : (bub xs z (k + 1))[k]? = some y := by
  have hk := (List.getElem?_eq_some_iff.1 h).1
  unfold bub
  have hl : (xs.take (k + 1)).length = k + 1 := by rw [List.length_take]; omega
  rw [List.getElem?_append_left (by omega), List.getElem?_take, if_pos (by omega)]; exact h
theorem bub_swap {xs : List Int} {z y : Int} {k : Nat} (h : xs[k]? = some y) : ((bub xs z (k + 1)).set (k + 1) y).set k z = bub xs z k := by
  have hk := (List.getElem?_eq_some_iff.1 h).1
  have hv := (List.getElem?_eq_some_iff.1 h).2
  have hl : (xs.take k).length = k := by rw [List.length_take]; omega
  unfold bub
  rw [List.take_add_one, h, List.drop_eq_getElem_cons hk, hv]
  simp only [Option.toList_some, List.append_assoc, List.singleton_append]
  rw [List.set_append, if_neg (by omega), hl, show k + 1 - k = 1 by omega]
  show (xs.take k ++ y :: y :: xs.drop (k + 1)).set k z = _
  rw [List.set_append, if_neg (by omega), hl, Nat.sub_self]
  rfl
theorem bub_end (xs : List Int) (z : Int) : bub xs z xs.length = xs ++ [z] := by
  unfold bub; rw [List.take_length, List.drop_length]
theorem count_up {xs : List Int} {z y : Int} {p : Nat} (h : xs.Pairwise (· < ·)) (hy : xs[p]? = some y) (hz : y < z) : p + 1 ≤ xs.countP (· < z) := by
  rcases Nat.lt_or_ge p (xs.countP (· < z)) with h1 | h1
  · omega
  · have : y ∈ xs.drop (xs.countP (· < z)) := by
      rw [List.mem_iff_getElem?]
      exact ⟨p - xs.countP (· < z), by rw [List.getElem?_drop, show xs.countP (· < z) + (p - xs.countP (· < z)) = p by omega]; exact hy⟩
    have := (sort_split z h).2 y this
    omega
theorem count_dn {xs : List Int} {z y : Int} {p : Nat} (h : xs.Pairwise (· < ·)) (hy : xs[p]? = some y) (hz : z < y) : xs.countP (· < z) ≤ p := by
  rcases Nat.lt_or_ge p (xs.countP (· < z)) with h1 | h1
  · have : y ∈ xs.take (xs.countP (· < z)) := by
      rw [List.mem_iff_getElem?]
      exact ⟨p, by rw [List.getElem?_take, if_pos h1]; exact hy⟩
    have := (sort_split z h).1 y this
    omega
  · exact h1
theorem measP {p : Nat} : (intOf (Value.int .i64 (p : Int))).toNat < (intOf (Value.int .i64 ((p : Int) + 1))).toNat := by
  simp [intOf]

def JoinQ (b : Nat) (S : List Nat) (M : List Gk) (g id : Int) (w : World) (e : Ending) (w' : World) : Prop :=
  e = .returned (.int .i64 (joinG M g id).1) ∧ Chg (fun w' S' => GQ w' b S' (joinG M g id).2) S w w'

set_option maxHeartbeats 6400000 in
set_option maxRecDepth 100000 in
theorem rg_join (b : Nat) (S : List Nat) (M : List Gk) (g id : Int) (hx : M.length < 10000) (hu : OkG M) (hso : SortG M) (w : World) (h : GQ w b S M) :
    Calls Try.prog 34 #[.pointer (some ⟨b, 0, none⟩), .int .i64 g, .int .i64 id] w (JoinQ b S M g id w) := by
  unfold JoinQ
  have hhs := rg_has b S M g w h
  have hret : ∀ c w', joinG M g id = (c, M) → Ext [] w w' → (Ending.returned (.int .i64 c) = .returned (.int .i64 (joinG M g id).1) ∧ Chg (fun w' S' => GQ w' b S' (joinG M g id).2) S w w') := fun c w' hj he => by
    rw [hj]
    exact ⟨rfl, S, h.keep0 he, he.mono (by simp), fun x hx => .inl hx⟩
  have HRET := Lib.hid hret
  clear hret
  cases hh : hasM M g with
  | false =>
    have hj : joinG M g id = (11, M) := by unfold joinG; rw [if_pos hh]
    rw [hh] at hhs
    have HHS := Lib.hid hhs; have HJ := Lib.hid hj
    clear hhs hj h hh hu hso hx
    go_enter Try.func34, Try.ntmps34
    go_wp2_with fail
    refine HHS.out.mono ?_
    rintro e w1 ⟨rfl, rfl⟩
    go_wp2_with fail
    refine bodyPost_ret (v := .int .i64 11) (by simp [results, Try.results34, go_sem]) rfl ?_
    exact HRET.out 11 _ HJ.out (Ext.refl _ _)
  | true =>
    obtain ⟨i, s, rfl, hs⟩ := has_at hh
    rw [hh] at hhs
    have hjf : joinG M ((i : Int) + 1) id = if s.torn then (13, M) else if id < 1 then (2, M) else if 0 < ofG M id then (16, M) else (0, M.set i ⟨insG id s.ids, s.torn⟩) := by
      unfold joinG
      rw [if_neg (by rw [hh]; decide), show ((i : Int) + 1 - 1).toNat = i by omega, hs]
    have hsl := hu s (List.mem_of_getElem? hs)
    have hst := hso s (List.mem_of_getElem? hs)
    have hof := rg_of b S M id hx hu w h
    have hin0 : ¬ 0 < ofG M id → id ∉ s.ids := fun h0 hm => by
      rcases of_cases M id with ⟨j, t, h1, h2, h3⟩ | ⟨h1, h2⟩
      · omega
      · exact h1 s (List.mem_of_getElem? hs) hm
    obtain ⟨v, L, h, hS, rfl⟩ := h
    obtain ⟨t, ht, rfl⟩ := abs_at hs
    obtain ⟨a, cap, rfl⟩ := h.ob.row.val
    obtain ⟨n, hn⟩ : ∃ n, n = L.length := ⟨_, rfl⟩
    have hin : i < n := by rw [hn]; exact (List.getElem?_eq_some_iff.1 ht).1
    rw [absG_len, ← hn] at hx
    rw [← hn] at h hS
    obtain ⟨q, rfl, hq⟩ := h.ob.row.addr (by omega)
    have hcv : w.cell? ⟨b, 0, none⟩ = some (.slice (some ⟨q, 0, none⟩) n cap) := h.ob.blk.cell 0
    have c1 := h.ob.row.cell encG_ok.len ht 1 (by omega)
    simp only [encG, List.getElem?_cons_zero, List.getElem?_cons_succ] at c1
    have b1 : (0 : Int) ≤ (i : Int) := by omega
    have b2 : (i : Int) < (n : Int) := by omega
    have hi6 : i < 1000000 := by omega
    have hsl2 : t.ids.length < 100000 := hsl
    have HHS := Lib.hid hhs; have HJF := Lib.hid hjf; have HOF := Lib.hid hof; have HT := Lib.hid h; have HS := Lib.hid hS; have H1 := Lib.hid ht; have HSL := Lib.hid hsl2; have HST := Lib.hid hst; have HIN := Lib.hid hin0
    clear hhs hjf hof h hS hh hs ht hn hu hso hsl hsl2 hst hin0
    have f1 := ws1 hi6
    have f2 := w64i hi6
    cases htt : t.torn with
    | true =>
      rw [htt] at c1
      have hj := HJF.out
      rw [if_pos (show t.abs.torn = true from htt)] at hj
      have HJ := Lib.hid hj
      clear hj htt
      go_enter Try.func34, Try.ntmps34
      go_wp2_with fail
      refine HHS.out.mono ?_
      rintro e w1 ⟨rfl, rfl⟩
      go_wp2_with fail
      refine bodyPost_ret (v := .int .i64 13) (by simp [results, Try.results34, go_sem]) rfl ?_
      exact HRET.out 13 _ HJ.out (Ext.refl _ _)
    | false =>
      rw [htt] at c1
      have hj := HJF.out
      rw [if_neg (show ¬ t.abs.torn = true by rw [show t.abs.torn = t.torn from rfl, htt]; decide)] at hj
      by_cases hid1 : id < 1
      · have d1 : decide (id < 1) = true := decide_eq_true hid1
        rw [if_pos hid1] at hj
        have HJ := Lib.hid hj
        clear hj hid1 htt
        go_enter Try.func34, Try.ntmps34
        go_wp2_with fail
        refine HHS.out.mono ?_
        rintro e w1 ⟨rfl, rfl⟩
        go_wp2_with fail
        refine bodyPost_ret (v := .int .i64 2) (by simp [results, Try.results34, go_sem]) rfl ?_
        exact HRET.out 2 _ HJ.out (Ext.refl _ _)
      · have d1 : decide (id < 1) = false := decide_eq_false hid1
        rw [if_neg hid1] at hj
        clear hid1
        obtain ⟨o, ho⟩ : ∃ o, o = ofG (absG L) id := ⟨_, rfl⟩
        rw [← ho] at hj HOF HIN
        by_cases hop : 0 < o
        · have d2 : decide (0 < o) = true := decide_eq_true hop
          rw [if_pos hop] at hj
          have HJ := Lib.hid hj
          clear hj htt ho
          go_enter Try.func34, Try.ntmps34
          go_wp2_with fail
          refine HHS.out.mono ?_
          rintro e w1 ⟨rfl, rfl⟩
          go_wp2_with fail
          refine HOF.out.mono ?_
          rintro e w1 ⟨rfl, rfl⟩
          go_wp2_with fail
          refine bodyPost_ret (v := .int .i64 16) (by simp [results, Try.results34, go_sem]) rfl ?_
          exact HRET.out 16 _ HJ.out (Ext.refl _ _)
        · have d2 : decide (0 < o) = false := decide_eq_false hop
          rw [if_neg hop] at hj
          have HJ := Lib.hid hj; have HNI := Lib.hid (HIN.out hop)
          clear hj htt ho hop HRET HJF HIN
          obtain ⟨l, hl⟩ : ∃ l, l = t.ids.length := ⟨_, rfl⟩
          have hl5 := HSL.out
          have c0 := HT.out.ob.row.cell encG_ok.len H1.out 0 (by omega)
          simp only [encG, Gr.row, Nat.add_zero, List.getElem?_cons_zero, List.getElem?_cons_succ] at c0
          have hri := HT.out.inn t (List.mem_of_getElem? H1.out)
          unfold Gr.row at hri
          rw [← hl] at c0 hri hl5
          have hsl1 := hri.sl
          have hlen1 : LenIs ([] : List Int) t.ids l := by unfold LenIs; rw [← hl]; simp
          have h62 : l ≤ 1000000 := by omega
          have hrn : RI w (.slice none 0 0) [] := Rw.nil _
          have HL := Lib.hid hl; have HL5 := Lib.hid hl5; have HRI := Lib.hid hri; have HI6 := Lib.hid hi6; have HQ := Lib.hid hq; have HC0 := Lib.hid c0
          clear hl hl5 hri hi6 hx hin hq
          go_enter Try.func34, Try.ntmps34
          go_wp2_with fail
          refine HHS.out.mono ?_
          rintro e w1 ⟨rfl, rfl⟩
          go_wp2_with fail
          refine HOF.out.mono ?_
          rintro e w1 ⟨rfl, rfl⟩
          go_wp2_with (at_builtin; refine wpList_appN tyI encI_ok (by rfl) _ _ (by rfl) hrn (by rfl) hsl1 (by rfl) hlen1 h62 ?_)
          intro a5 c5 w5 hr5 hS5 hg5
          have e5 : Hid (Ext [] w w5) := hS5 [] (by simp [Value.ownBlock])
          have g5 : Hid (∀ z, (Value.slice a5 l c5).ownBlock = some z → w.heap.size ≤ z) := fun z hz => (hg5 z hz).elim (fun h => by simp [Value.ownBlock] at h) (fun h => h)
          have hrA := hr5.alloc (.cells #[.int .i64 id] 3 (0, 0))
          have hsA := Sl.new (enc := encI .i64) w5 id 3
          have hlen2 : LenIs t.ids [id] (l + 1) := by unfold LenIs; rw [← HL.out]; rfl
          have h63 : l + 1 ≤ 1000000 := by have := HL5.out; omega
          have eA : Hid (Ext [] w (w5.alloc (.cells #[.int .i64 id] 3 (0, 0)))) := e5.out.alloc _
          have hsz := e5.out.size
          clear hr5 hS5 hg5 hsl1 hlen1 h62 hrn c0 c1 hcv
          go_wp2_with (at_builtin; refine wpList_appN tyI encI_ok (by rfl) _ _ (by rfl) hrA (by rfl) hsA (by rfl) hlen2 h63 ?_)
          intro a7 c7 w7 hr7 hS7 hg7
          have e7 : Hid (Ext [] w w7) := fresh_app eA.out g5.out hS7
          have g7 : ∀ z, (Value.slice a7 (l + 1) c7).ownBlock = some z → w.heap.size ≤ z := fun z hz => (hg7 z hz).elim (g5.out z) (fun h => Nat.le_trans hsz (Nat.le_of_succ_le h))
          obtain ⟨lb, rfl, hlb⟩ := hr7.addr (by omega)
          have G7 := Lib.hid (g7 lb rfl)
          obtain ⟨N, hN⟩ : ∃ N, N = l + 1 := ⟨_, rfl⟩
          rw [← hN] at hr7 ⊢
          have hbe : t.ids ++ [id] = bub t.ids id l := by rw [HL.out]; exact (bub_end _ _).symm
          rw [hbe] at hr7
          have R7 := Lib.hid hr7; have HN := Lib.hid hN
          have f3 : wrap64 ((N : Int) - 1) = (l : Int) := by rw [hN, show ((l + 1 : Nat) : Int) - 1 = (l : Int) by omega]; exact w64i (by omega)
          clear hr7 hS7 hg7 g7 hrA hsA hlen2 h63 hsz hbe hlb hN
          go_wp2_with fail
          go_loopw [8] (fun kv wx => ∃ k : Nat, k ≤ l ∧ kv = .int .i64 (k : Int) ∧ Hid (RI wx (.slice (some ⟨lb, 0, none⟩) N c7) (bub t.ids id k)) ∧ Hid (Ext [] w wx) ∧ Hid (t.ids.countP (· < id) ≤ k)) (fun kv _ => (intOf kv).toNat)
          case atStart => exact ⟨l, Nat.le_refl _, by rw [f3], R7, e7, by rw [HL.out]; exact List.countP_le_length⟩
          case round =>
            obtain ⟨k, hkl, rfl, hrk, hex, hck⟩ := hrel
            clear f3
            go_upto_region 11 with fail
            go_cut [61] (fun v wx => Hid (RI wx (.slice (some ⟨lb, 0, none⟩) N c7) (bub t.ids id k)) ∧ Hid (Ext [] w wx) ∧ ((v = .bool false ∧ Hid (t.ids.countP (· < id) = k)) ∨ (v = .bool true ∧ ∃ (p : Nat) (y : Int), k = p + 1 ∧ Hid (t.ids[p]? = some y) ∧ Hid (t.ids.countP (· < id) ≤ p))))
            case first =>
              have PK : Hid (k ≤ l) := hkl
              rcases Nat.eq_zero_or_pos k with hk0 | hk0
              · subst hk0
                clear hkl PK f1 f2 b1 b2 d1 d2
                refine start_ (n := 14) (S := fun w' => (0 : Int) = 0) (ds := []) #[false, false, false, false, false, false, false, false, false, false, false, false, false, false] (by kernel_rfl) rfl rfl (rfl) (fun hHeld => ?_)
                refine pure_ (i := 0) (N := some 48) (v := ?_) (a' := ?_) #[true, false, false, false, false, false, false, false, false, false, false, false, false, false] rfl rfl (by kernel_rfl) (fun _ _ _ h => h) (Or.inl ⟨by rfl, ?_⟩) ?_ ?_
                rotate_left
                · intro w'
                  go_simp
                  with_reducible rfl
                rotate_left
                · (simp only [Act.put, List.setIfInBounds_toArray, i64_w, i32_w]; dsimp only [List.set_cons_zero, List.set_cons_succ])
                  rfl
                refine pure_ (i := 1) (N := some 49) (v := ?_) (a' := ?_) #[true, true, false, false, false, false, false, false, false, false, false, false, false, false] rfl rfl (by kernel_rfl) (fun _ _ _ h => h) (Or.inl ⟨by rfl, ?_⟩) ?_ ?_
                rotate_left
                · intro w'
                  go_simp
                  with_reducible rfl
                rotate_left
                · (simp only [Act.put, List.setIfInBounds_toArray, i64_w, i32_w]; dsimp only [List.set_cons_zero, List.set_cons_succ])
                  rfl
                refine pure_ (i := 2) (N := some 50) (v := ?_) (a' := ?_) #[true, true, true, false, false, false, false, false, false, false, false, false, false, false] rfl rfl (by kernel_rfl) (fun _ _ _ h => h) (Or.inl ⟨by rfl, ?_⟩) ?_ ?_
                rotate_left
                · intro w'
                  go_simp
                  with_reducible rfl
                rotate_left
                · (simp only [Act.put, List.setIfInBounds_toArray, i64_w, i32_w]; dsimp only [List.set_cons_zero, List.set_cons_succ])
                  rfl
                refine pure_ (i := 3) (N := some 51) (v := undef) (a' := ?_) #[true, true, true, true, false, false, false, false, false, false, false, false, false, false] rfl rfl (by kernel_rfl) (fun _ _ _ h => h) (Or.inr ⟨by rfl, rfl⟩) ?_ ?_
                rotate_left
                · (simp only [Act.put, List.setIfInBounds_toArray, i64_w, i32_w]; dsimp only [List.set_cons_zero, List.set_cons_succ])
                  rfl
                refine pure_ (i := 4) (N := some 52) (v := undef) (a' := ?_) #[true, true, true, true, true, false, false, false, false, false, false, false, false, false] rfl rfl (by kernel_rfl) (fun _ _ _ h => h) (Or.inr ⟨by rfl, rfl⟩) ?_ ?_
                rotate_left
                · (simp only [Act.put, List.setIfInBounds_toArray, i64_w, i32_w]; dsimp only [List.set_cons_zero, List.set_cons_succ])
                  rfl
                refine pure_ (i := 5) (N := some 53) (v := undef) (a' := ?_) #[true, true, true, true, true, true, false, false, false, false, false, false, false, false] rfl rfl (by kernel_rfl) (fun _ _ _ h => h) (Or.inr ⟨by rfl, rfl⟩) ?_ ?_
                rotate_left
                · (simp only [Act.put, List.setIfInBounds_toArray, i64_w, i32_w]; dsimp only [List.set_cons_zero, List.set_cons_succ])
                  rfl
                refine pure_ (i := 6) (N := some 54) (v := undef) (a' := ?_) #[true, true, true, true, true, true, true, false, false, false, false, false, false, false] rfl rfl (by kernel_rfl) (fun _ _ _ h => h) (Or.inr ⟨by rfl, rfl⟩) ?_ ?_
                rotate_left
                · (simp only [Act.put, List.setIfInBounds_toArray, i64_w, i32_w]; dsimp only [List.set_cons_zero, List.set_cons_succ])
                  rfl
                refine pure_ (i := 7) (N := some 55) (v := undef) (a' := ?_) #[true, true, true, true, true, true, true, true, false, false, false, false, false, false] rfl rfl (by kernel_rfl) (fun _ _ _ h => h) (Or.inr ⟨by rfl, rfl⟩) ?_ ?_
                rotate_left
                · (simp only [Act.put, List.setIfInBounds_toArray, i64_w, i32_w]; dsimp only [List.set_cons_zero, List.set_cons_succ])
                  rfl
                refine pure_ (i := 8) (N := some 56) (v := undef) (a' := ?_) #[true, true, true, true, true, true, true, true, true, false, false, false, false, false] rfl rfl (by kernel_rfl) (fun _ _ _ h => h) (Or.inr ⟨by rfl, rfl⟩) ?_ ?_
                rotate_left
                · (simp only [Act.put, List.setIfInBounds_toArray, i64_w, i32_w]; dsimp only [List.set_cons_zero, List.set_cons_succ])
                  rfl
                refine pure_ (i := 9) (N := some 57) (v := undef) (a' := ?_) #[true, true, true, true, true, true, true, true, true, true, false, false, false, false] rfl rfl (by kernel_rfl) (fun _ _ _ h => h) (Or.inr ⟨by rfl, rfl⟩) ?_ ?_
                rotate_left
                · (simp only [Act.put, List.setIfInBounds_toArray, i64_w, i32_w]; dsimp only [List.set_cons_zero, List.set_cons_succ])
                  rfl
                refine pure_ (i := 10) (N := some 58) (v := undef) (a' := ?_) #[true, true, true, true, true, true, true, true, true, true, true, false, false, false] rfl rfl (by kernel_rfl) (fun _ _ _ h => h) (Or.inr ⟨by rfl, rfl⟩) ?_ ?_
                rotate_left
                · (simp only [Act.put, List.setIfInBounds_toArray, i64_w, i32_w]; dsimp only [List.set_cons_zero, List.set_cons_succ])
                  rfl
                refine pure_ (i := 11) (N := some 59) (v := undef) (a' := ?_) #[true, true, true, true, true, true, true, true, true, true, true, true, false, false] rfl rfl (by kernel_rfl) (fun _ _ _ h => h) (Or.inr ⟨by rfl, rfl⟩) ?_ ?_
                rotate_left
                · (simp only [Act.put, List.setIfInBounds_toArray, i64_w, i32_w]; dsimp only [List.set_cons_zero, List.set_cons_succ])
                  rfl
                refine pure_ (i := 12) (N := some 60) (v := undef) (a' := ?_) #[true, true, true, true, true, true, true, true, true, true, true, true, true, false] rfl rfl (by kernel_rfl) (fun _ _ _ h => h) (Or.inr ⟨by rfl, rfl⟩) ?_ ?_
                rotate_left
                · (simp only [Act.put, List.setIfInBounds_toArray, i64_w, i32_w]; dsimp only [List.set_cons_zero, List.set_cons_succ])
                  rfl
                refine pure_ (i := 13) (N := some 61) (v := ?_) (a' := ?_) #[true, true, true, true, true, true, true, true, true, true, true, true, true, true] rfl rfl (by kernel_rfl) (fun _ _ _ h => h) (Or.inl ⟨by rfl, ?_⟩) ?_ ?_
                rotate_left
                · intro w'
                  go_simp
                  with_reducible rfl
                rotate_left
                · (simp only [Act.put, List.setIfInBounds_toArray, i64_w, i32_w]; dsimp only [List.set_cons_zero, List.set_cons_succ])
                  rfl
                refine done_ (by kernel_rfl) ?_
                go_wp2_with fail
                go_meet
                exact ⟨hrk.out.drew, hex.out.drew, .inl ⟨rfl, Nat.le_zero.1 hck.out⟩⟩
              · obtain ⟨p, rfl⟩ : ∃ p, k = p + 1 := ⟨k - 1, by omega⟩
                obtain ⟨y, hy⟩ : ∃ y, t.ids[p]? = some y := ⟨_, List.getElem?_eq_getElem (by rw [← HL.out]; omega)⟩
                have hkl2 : p + 1 ≤ t.ids.length := by rw [← HL.out]; exact hkl
                have y0 := hrk.out.cell encI_ok.len (bub_prev (z := id) hy) 0 (by omega)
                have y1 := hrk.out.cell encI_ok.len (bub_at (z := id) hkl2) 0 (by omega)
                simp only [encI, Nat.add_zero, Nat.mul_one, List.getElem?_cons_zero] at y0 y1
                have hNl := HN.out
                have hl5 := HL5.out
                rw [show ((p + 1 : Nat) : Int) = (p : Int) + 1 by omega]
                have q0 : decide ((0 : Int) < (p : Int) + 1) = true := decide_eq_true (by omega)
                have q1 : (0 : Int) ≤ (p : Int) := by omega
                have q2 : (p : Int) < (N : Int) := by omega
                have q3 : (0 : Int) ≤ (p : Int) + 1 := by omega
                have q4 : (p : Int) + 1 < (N : Int) := by omega
                have q5 : ((p : Int) + 1).toNat = p + 1 := by omega
                have hp6 : p < 1000000 := by omega
                have HY := Lib.hid hy
                clear hkl hkl2 hNl hl5 hy hk0
                have q6 := ws1 hp6
                have q7 := w64i hp6
                clear hp6 f1 f2 b1 b2 d1 d2
                by_cases hlt : id < y
                · have d3 : decide (id < y) = true := decide_eq_true hlt
                  have HLT := Lib.hid (count_dn HST.out HY.out hlt)
                  clear hlt
                  refine start_ (n := 14) (S := fun w' => w'.cell? ⟨lb, p + 1, none⟩ = some (.int .i64 id) ∧ w'.cell? ⟨lb, p, none⟩ = some (.int .i64 y)) (ds := []) #[false, false, false, false, false, false, false, false, false, false, false, false, false, false] (by kernel_rfl) rfl rfl ⟨y1, y0⟩ (fun hHeld => ?_)
                  refine pure_ (i := 0) (N := some 48) (v := ?_) (a' := ?_) #[true, false, false, false, false, false, false, false, false, false, false, false, false, false] rfl rfl (by kernel_rfl) (fun _ _ _ h => h) (Or.inl ⟨by rfl, ?_⟩) ?_ ?_
                  rotate_left
                  · intro w'
                    go_simp
                    with_reducible rfl
                  rotate_left
                  · (simp only [Act.put, List.setIfInBounds_toArray, i64_w, i32_w]; dsimp only [List.set_cons_zero, List.set_cons_succ])
                    rfl
                  refine pure_ (i := 1) (N := some 49) (v := ?_) (a' := ?_) #[true, true, false, false, false, false, false, false, false, false, false, false, false, false] rfl rfl (by kernel_rfl) (fun _ _ _ h => h) (Or.inl ⟨by rfl, ?_⟩) ?_ ?_
                  rotate_left
                  · intro w'
                    go_simp
                    with_reducible rfl
                  rotate_left
                  · (simp only [Act.put, List.setIfInBounds_toArray, i64_w, i32_w]; dsimp only [List.set_cons_zero, List.set_cons_succ])
                    rfl
                  refine pure_ (i := 2) (N := some 50) (v := ?_) (a' := ?_) #[true, true, true, false, false, false, false, false, false, false, false, false, false, false] rfl rfl (by kernel_rfl) (fun _ _ _ h => h) (Or.inl ⟨by rfl, ?_⟩) ?_ ?_
                  rotate_left
                  · intro w'
                    go_simp
                    with_reducible rfl
                  rotate_left
                  · (simp only [Act.put, List.setIfInBounds_toArray, i64_w, i32_w]; dsimp only [List.set_cons_zero, List.set_cons_succ])
                    rfl
                  refine pure_ (i := 3) (N := some 51) (v := ?_) (a' := ?_) #[true, true, true, true, false, false, false, false, false, false, false, false, false, false] rfl rfl (by kernel_rfl) (fun _ _ _ h => h) (Or.inl ⟨by rfl, ?_⟩) ?_ ?_
                  rotate_left
                  · intro w'
                    go_simp
                    with_reducible rfl
                  rotate_left
                  · (simp only [Act.put, List.setIfInBounds_toArray, i64_w, i32_w]; dsimp only [List.set_cons_zero, List.set_cons_succ])
                    rfl
                  refine pure_ (i := 4) (N := some 52) (v := ?_) (a' := ?_) #[true, true, true, true, true, false, false, false, false, false, false, false, false, false] rfl rfl (by kernel_rfl) (fun _ _ _ h => h) (Or.inl ⟨by rfl, ?_⟩) ?_ ?_
                  rotate_left
                  · intro w'
                    go_simp
                    with_reducible rfl
                  rotate_left
                  · (simp only [Act.put, List.setIfInBounds_toArray, i64_w, i32_w]; dsimp only [List.set_cons_zero, List.set_cons_succ])
                    rfl
                  refine pure_ (i := 5) (N := some 53) (v := ?_) (a' := ?_) #[true, true, true, true, true, true, false, false, false, false, false, false, false, false] rfl rfl (by kernel_rfl) (fun _ _ _ h => h) (Or.inl ⟨by rfl, ?_⟩) ?_ ?_
                  rotate_left
                  · intro w'
                    go_simp
                    with_reducible rfl
                  rotate_left
                  · (simp only [Act.put, List.setIfInBounds_toArray, i64_w, i32_w]; dsimp only [List.set_cons_zero, List.set_cons_succ])
                    rfl
                  refine pure_ (i := 7) (N := some 55) (v := ?_) (a' := ?_) #[true, true, true, true, true, true, false, true, false, false, false, false, false, false] rfl rfl (by kernel_rfl) (fun _ _ _ h => h) (Or.inl ⟨by rfl, ?_⟩) ?_ ?_
                  rotate_left
                  · intro w'
                    go_simp
                    with_reducible rfl
                  rotate_left
                  · (simp only [Act.put, List.setIfInBounds_toArray, i64_w, i32_w]; dsimp only [List.set_cons_zero, List.set_cons_succ])
                    rfl
                  refine pure_ (i := 8) (N := some 56) (v := ?_) (a' := ?_) #[true, true, true, true, true, true, false, true, true, false, false, false, false, false] rfl rfl (by kernel_rfl) (fun _ _ _ h => h) (Or.inl ⟨by rfl, ?_⟩) ?_ ?_
                  rotate_left
                  · intro w'
                    go_simp
                    with_reducible rfl
                  rotate_left
                  · (simp only [Act.put, List.setIfInBounds_toArray, i64_w, i32_w]; dsimp only [List.set_cons_zero, List.set_cons_succ])
                    rfl
                  refine pure_ (i := 9) (N := some 57) (v := ?_) (a' := ?_) #[true, true, true, true, true, true, false, true, true, true, false, false, false, false] rfl rfl (by kernel_rfl) (fun _ _ _ h => h) (Or.inl ⟨by rfl, ?_⟩) ?_ ?_
                  rotate_left
                  · intro w'
                    go_simp
                    with_reducible rfl
                  rotate_left
                  · (simp only [Act.put, List.setIfInBounds_toArray, i64_w, i32_w]; dsimp only [List.set_cons_zero, List.set_cons_succ])
                    rfl
                  refine pure_ (i := 10) (N := some 58) (v := ?_) (a' := ?_) #[true, true, true, true, true, true, false, true, true, true, true, false, false, false] rfl rfl (by kernel_rfl) (fun _ _ _ h => h) (Or.inl ⟨by rfl, ?_⟩) ?_ ?_
                  rotate_left
                  · intro w'
                    go_simp
                    with_reducible rfl
                  rotate_left
                  · (simp only [Act.put, List.setIfInBounds_toArray, i64_w, i32_w]; dsimp only [List.set_cons_zero, List.set_cons_succ])
                    rfl
                  refine take_ (i := 6) (N := some 54) (v := ?_) (a' := ?_) #[true, true, true, true, true, true, true, true, true, true, true, false, false, false] rfl rfl (by kernel_rfl) (fun _ _ _ h => h) (Or.inl ⟨by rfl, ?_⟩) hHeld ?_ ?_
                  rotate_left
                  · rintro w' ⟨s0, s1⟩
                    go_simp
                    with_reducible rfl
                  rotate_left
                  · (simp only [Act.put, List.setIfInBounds_toArray, i64_w, i32_w]; dsimp only [List.set_cons_zero, List.set_cons_succ])
                    rfl
                  refine take_ (i := 11) (N := some 59) (v := ?_) (a' := ?_) #[true, true, true, true, true, true, true, true, true, true, true, true, false, false] rfl rfl (by kernel_rfl) (fun _ _ _ h => h) (Or.inl ⟨by rfl, ?_⟩) hHeld ?_ ?_
                  rotate_left
                  · rintro w' ⟨s0, s1⟩
                    go_simp
                    with_reducible rfl
                  rotate_left
                  · (simp only [Act.put, List.setIfInBounds_toArray, i64_w, i32_w]; dsimp only [List.set_cons_zero, List.set_cons_succ])
                    rfl
                  refine pure_ (i := 12) (N := some 60) (v := ?_) (a' := ?_) #[true, true, true, true, true, true, true, true, true, true, true, true, true, false] rfl rfl (by kernel_rfl) (fun _ _ _ h => h) (Or.inl ⟨by rfl, ?_⟩) ?_ ?_
                  rotate_left
                  · intro w'
                    go_simp
                    with_reducible rfl
                  rotate_left
                  · (simp only [Act.put, List.setIfInBounds_toArray, i64_w, i32_w]; dsimp only [List.set_cons_zero, List.set_cons_succ])
                    rfl
                  refine pure_ (i := 13) (N := some 61) (v := ?_) (a' := ?_) #[true, true, true, true, true, true, true, true, true, true, true, true, true, true] rfl rfl (by kernel_rfl) (fun _ _ _ h => h) (Or.inl ⟨by rfl, ?_⟩) ?_ ?_
                  rotate_left
                  · intro w'
                    go_simp
                    with_reducible rfl
                  rotate_left
                  · (simp only [Act.put, List.setIfInBounds_toArray, i64_w, i32_w]; dsimp only [List.set_cons_zero, List.set_cons_succ])
                    rfl
                  refine done_ (by kernel_rfl) ?_
                  go_wp2_with fail
                  go_meet
                  exact ⟨hrk.out.drew, hex.out.drew, .inr ⟨rfl, p, y, rfl, HY, HLT⟩⟩
                · have d3 : decide (id < y) = false := decide_eq_false hlt
                  have HLT : Hid (t.ids.countP (· < id) = p + 1) := by
                    have h1 := HY.out
                    have hne : y ≠ id := fun e => HNI.out (e ▸ List.mem_of_getElem? h1)
                    have h2 := count_up HST.out h1 (by omega : y < id)
                    have h3 := hck.out
                    exact Nat.le_antisymm h3 h2
                  clear hlt
                  refine start_ (n := 14) (S := fun w' => w'.cell? ⟨lb, p + 1, none⟩ = some (.int .i64 id) ∧ w'.cell? ⟨lb, p, none⟩ = some (.int .i64 y)) (ds := []) #[false, false, false, false, false, false, false, false, false, false, false, false, false, false] (by kernel_rfl) rfl rfl ⟨y1, y0⟩ (fun hHeld => ?_)
                  refine pure_ (i := 0) (N := some 48) (v := ?_) (a' := ?_) #[true, false, false, false, false, false, false, false, false, false, false, false, false, false] rfl rfl (by kernel_rfl) (fun _ _ _ h => h) (Or.inl ⟨by rfl, ?_⟩) ?_ ?_
                  rotate_left
                  · intro w'
                    go_simp
                    with_reducible rfl
                  rotate_left
                  · (simp only [Act.put, List.setIfInBounds_toArray, i64_w, i32_w]; dsimp only [List.set_cons_zero, List.set_cons_succ])
                    rfl
                  refine pure_ (i := 1) (N := some 49) (v := ?_) (a' := ?_) #[true, true, false, false, false, false, false, false, false, false, false, false, false, false] rfl rfl (by kernel_rfl) (fun _ _ _ h => h) (Or.inl ⟨by rfl, ?_⟩) ?_ ?_
                  rotate_left
                  · intro w'
                    go_simp
                    with_reducible rfl
                  rotate_left
                  · (simp only [Act.put, List.setIfInBounds_toArray, i64_w, i32_w]; dsimp only [List.set_cons_zero, List.set_cons_succ])
                    rfl
                  refine pure_ (i := 2) (N := some 50) (v := ?_) (a' := ?_) #[true, true, true, false, false, false, false, false, false, false, false, false, false, false] rfl rfl (by kernel_rfl) (fun _ _ _ h => h) (Or.inl ⟨by rfl, ?_⟩) ?_ ?_
                  rotate_left
                  · intro w'
                    go_simp
                    with_reducible rfl
                  rotate_left
                  · (simp only [Act.put, List.setIfInBounds_toArray, i64_w, i32_w]; dsimp only [List.set_cons_zero, List.set_cons_succ])
                    rfl
                  refine pure_ (i := 3) (N := some 51) (v := ?_) (a' := ?_) #[true, true, true, true, false, false, false, false, false, false, false, false, false, false] rfl rfl (by kernel_rfl) (fun _ _ _ h => h) (Or.inl ⟨by rfl, ?_⟩) ?_ ?_
                  rotate_left
                  · intro w'
                    go_simp
                    with_reducible rfl
                  rotate_left
                  · (simp only [Act.put, List.setIfInBounds_toArray, i64_w, i32_w]; dsimp only [List.set_cons_zero, List.set_cons_succ])
                    rfl
                  refine pure_ (i := 4) (N := some 52) (v := ?_) (a' := ?_) #[true, true, true, true, true, false, false, false, false, false, false, false, false, false] rfl rfl (by kernel_rfl) (fun _ _ _ h => h) (Or.inl ⟨by rfl, ?_⟩) ?_ ?_
                  rotate_left
                  · intro w'
                    go_simp
                    with_reducible rfl
                  rotate_left
                  · (simp only [Act.put, List.setIfInBounds_toArray, i64_w, i32_w]; dsimp only [List.set_cons_zero, List.set_cons_succ])
                    rfl
                  refine pure_ (i := 5) (N := some 53) (v := ?_) (a' := ?_) #[true, true, true, true, true, true, false, false, false, false, false, false, false, false] rfl rfl (by kernel_rfl) (fun _ _ _ h => h) (Or.inl ⟨by rfl, ?_⟩) ?_ ?_
                  rotate_left
                  · intro w'
                    go_simp
                    with_reducible rfl
                  rotate_left
                  · (simp only [Act.put, List.setIfInBounds_toArray, i64_w, i32_w]; dsimp only [List.set_cons_zero, List.set_cons_succ])
                    rfl
                  refine pure_ (i := 7) (N := some 55) (v := ?_) (a' := ?_) #[true, true, true, true, true, true, false, true, false, false, false, false, false, false] rfl rfl (by kernel_rfl) (fun _ _ _ h => h) (Or.inl ⟨by rfl, ?_⟩) ?_ ?_
                  rotate_left
                  · intro w'
                    go_simp
                    with_reducible rfl
                  rotate_left
                  · (simp only [Act.put, List.setIfInBounds_toArray, i64_w, i32_w]; dsimp only [List.set_cons_zero, List.set_cons_succ])
                    rfl
                  refine pure_ (i := 8) (N := some 56) (v := ?_) (a' := ?_) #[true, true, true, true, true, true, false, true, true, false, false, false, false, false] rfl rfl (by kernel_rfl) (fun _ _ _ h => h) (Or.inl ⟨by rfl, ?_⟩) ?_ ?_
                  rotate_left
                  · intro w'
                    go_simp
                    with_reducible rfl
                  rotate_left
                  · (simp only [Act.put, List.setIfInBounds_toArray, i64_w, i32_w]; dsimp only [List.set_cons_zero, List.set_cons_succ])
                    rfl
                  refine pure_ (i := 9) (N := some 57) (v := ?_) (a' := ?_) #[true, true, true, true, true, true, false, true, true, true, false, false, false, false] rfl rfl (by kernel_rfl) (fun _ _ _ h => h) (Or.inl ⟨by rfl, ?_⟩) ?_ ?_
                  rotate_left
                  · intro w'
                    go_simp
                    with_reducible rfl
                  rotate_left
                  · (simp only [Act.put, List.setIfInBounds_toArray, i64_w, i32_w]; dsimp only [List.set_cons_zero, List.set_cons_succ])
                    rfl
                  refine pure_ (i := 10) (N := some 58) (v := ?_) (a' := ?_) #[true, true, true, true, true, true, false, true, true, true, true, false, false, false] rfl rfl (by kernel_rfl) (fun _ _ _ h => h) (Or.inl ⟨by rfl, ?_⟩) ?_ ?_
                  rotate_left
                  · intro w'
                    go_simp
                    with_reducible rfl
                  rotate_left
                  · (simp only [Act.put, List.setIfInBounds_toArray, i64_w, i32_w]; dsimp only [List.set_cons_zero, List.set_cons_succ])
                    rfl
                  refine take_ (i := 6) (N := some 54) (v := ?_) (a' := ?_) #[true, true, true, true, true, true, true, true, true, true, true, false, false, false] rfl rfl (by kernel_rfl) (fun _ _ _ h => h) (Or.inl ⟨by rfl, ?_⟩) hHeld ?_ ?_
                  rotate_left
                  · rintro w' ⟨s0, s1⟩
                    go_simp
                    with_reducible rfl
                  rotate_left
                  · (simp only [Act.put, List.setIfInBounds_toArray, i64_w, i32_w]; dsimp only [List.set_cons_zero, List.set_cons_succ])
                    rfl
                  refine take_ (i := 11) (N := some 59) (v := ?_) (a' := ?_) #[true, true, true, true, true, true, true, true, true, true, true, true, false, false] rfl rfl (by kernel_rfl) (fun _ _ _ h => h) (Or.inl ⟨by rfl, ?_⟩) hHeld ?_ ?_
                  rotate_left
                  · rintro w' ⟨s0, s1⟩
                    go_simp
                    with_reducible rfl
                  rotate_left
                  · (simp only [Act.put, List.setIfInBounds_toArray, i64_w, i32_w]; dsimp only [List.set_cons_zero, List.set_cons_succ])
                    rfl
                  refine pure_ (i := 12) (N := some 60) (v := ?_) (a' := ?_) #[true, true, true, true, true, true, true, true, true, true, true, true, true, false] rfl rfl (by kernel_rfl) (fun _ _ _ h => h) (Or.inl ⟨by rfl, ?_⟩) ?_ ?_
                  rotate_left
                  · intro w'
                    go_simp
                    with_reducible rfl
                  rotate_left
                  · (simp only [Act.put, List.setIfInBounds_toArray, i64_w, i32_w]; dsimp only [List.set_cons_zero, List.set_cons_succ])
                    rfl
                  refine pure_ (i := 13) (N := some 61) (v := ?_) (a' := ?_) #[true, true, true, true, true, true, true, true, true, true, true, true, true, true] rfl rfl (by kernel_rfl) (fun _ _ _ h => h) (Or.inl ⟨by rfl, ?_⟩) ?_ ?_
                  rotate_left
                  · intro w'
                    go_simp
                    with_reducible rfl
                  rotate_left
                  · (simp only [Act.put, List.setIfInBounds_toArray, i64_w, i32_w]; dsimp only [List.set_cons_zero, List.set_cons_succ])
                    rfl
                  refine done_ (by kernel_rfl) ?_
                  go_wp2_with fail
                  go_meet
                  exact ⟨hrk.out.drew, hex.out.drew, .inl ⟨rfl, HLT⟩⟩
            case rest =>
              obtain ⟨hrk, hex, ⟨rfl, hcp⟩ | ⟨rfl, p, y, hkp, hy, hcp⟩⟩ := hcut
              · have hig : bub t.ids id k = insG id t.ids := by unfold bub insG; rw [hcp.out]
                have hr9 := hrk.out
                rw [hig] at hr9
                have hNi : N = (insG id t.ids).length := hr9.len
                have hset := HT.out.set_one (by decide) (by decide) (s' := ⟨some ⟨lb, 0, none⟩, c7, insG id t.ids, t.torn⟩) (W := wc.setCell ⟨q, i * 2, none⟩ (.slice (some ⟨lb, 0, none⟩) (insG id t.ids).length c7)) H1.out (hex.out.mono (by simp)) (by rw [hNi] at hr9; exact hr9) (fun y hy => .inr (by simp [Gr.row, Value.ownBlock] at hy; subst hy; exact G7.out)) ((Ext.refl [q] _).setCell (Or.inl (by simp)) _) (fun hs hr => hr.put1 encG_ok.len (j := 0) (by omega) hs _ _ rfl)
                have hTw := HT.out.keep0 hex.out
                have hcv : wc.cell? ⟨b, 0, none⟩ = some (.slice (some ⟨q, 0, none⟩) n cap) := hTw.ob.blk.cell 0
                have hfz : wc.frozen? ⟨q, i * 2, none⟩ = false := hTw.ob.row.free _
                have c0 : wc.cell? ⟨q, i * 2, none⟩ = some (.slice t.ma l t.mc) := (hex.out.cell (p := ⟨q, i * 2, none⟩) HQ.out (by simp)).trans HC0.out
                rw [← hNi] at hset
                obtain ⟨hT8, hE8, hO8⟩ := hset
                have HT8 := Lib.hid hT8; have HE8 := Lib.hid hE8; have HO8 := Lib.hid hO8
                clear hT8 hE8 hO8 hTw hNi hr9 hig hcp hck hkl d1 d2
                go_wp2_with fail
                refine bodyPost_ret (v := .int .i64 0) (by simp [results, Try.results34, go_sem]) rfl ?_
                have hSS : ∀ y, y ∈ (b :: [q]) ++ gOwn L → y ∈ S := fun y hy => by rw [HS.out]; exact hy
                rw [HJ.out]
                refine ⟨rfl, _, ⟨_, _, HT8.out, rfl, by rw [absG_set]; rfl⟩, HE8.out.mono (fun y hy => .inl (hSS y hy)), ?_⟩
                intro y hy
                rcases List.mem_append.1 hy with hy | hy
                · exact .inl (hSS y (List.mem_append_left _ hy))
                · exact (HO8.out y hy).imp (fun h => hSS y (List.mem_append_right _ h)) (fun h => h)
              · subst hkp
                have hkl2 : p + 1 ≤ t.ids.length := by rw [← HL.out]; exact hkl
                have hrd := hrk.out
                have y0 := hrd.cell encI_ok.len (bub_prev (z := id) hy.out) 0 (by omega)
                have y1 := hrd.cell encI_ok.len (bub_at (z := id) hkl2) 0 (by omega)
                simp only [encI, Nat.add_zero, Nat.mul_one, List.getElem?_cons_zero] at y0 y1
                have hs1 := hrd.put1 encI_ok.len (j := 0) (by omega) (bub_at (z := id) hkl2) (.int .i64 y) y rfl
                have hs2 := hs1.put1 encI_ok.len (j := 0) (by omega) (i := p) (x := y) (by rw [List.getElem?_set, if_neg (by omega)]; exact bub_prev hy.out) (.int .i64 id) id rfl
                rw [bub_swap hy.out] at hs2
                simp only [Nat.mul_one, Nat.add_zero] at hs1 hs2
                have z1 := hrd.free (p + 1)
                have z2 := hrd.free p
                have eW : Ext [] w ((wc.setCell ⟨lb, p + 1, none⟩ (.int .i64 y)).setCell ⟨lb, p, none⟩ (.int .i64 id)) := hex.out.fresh (((Ext.refl [lb] _).setCell (Or.inl (by simp)) _).setCell (Or.inl (by simp)) _) (fun x hx => by simp at hx; subst hx; exact G7.out)
                have hNl := HN.out
                have hl5 := HL5.out
                rw [show ((p + 1 : Nat) : Int) = (p : Int) + 1 by omega]
                have q1 : (0 : Int) ≤ (p : Int) := by omega
                have q2 : (p : Int) < (N : Int) := by omega
                have q3 : (0 : Int) ≤ (p : Int) + 1 := by omega
                have q4 : (p : Int) + 1 < (N : Int) := by omega
                have q5 : ((p : Int) + 1).toNat = p + 1 := by omega
                have hp6 : p < 1000000 := by omega
                have P1 : Hid (p ≤ l) := Nat.le_of_succ_le hkl
                have HS2 := Lib.hid hs2.drew; have EW := Lib.hid eW.drew
                clear hkl hkl2 hNl hl5 hrd hs1 hs2 eW
                have q6 := ws1 hp6
                have q7 := w64i hp6
                clear hp6 f1 f2 b1 b2 d1 d2
                go_wp2_with fail
                refine start_ (n := 18) (S := fun w' => w'.cell? ⟨lb, p + 1, none⟩ = some (.int .i64 id) ∧ w'.cell? ⟨lb, p, none⟩ = some (.int .i64 y)) (ds := [15, 17]) #[false, false, false, false, false, false, false, false, false, false, false, false, false, false, false, false, false, false] (by kernel_rfl) rfl rfl ⟨y1, y0⟩ (fun hHeld => ?_)
                refine pure_ (i := 0) (N := some 64) (v := ?_) (a' := ?_) #[true, false, false, false, false, false, false, false, false, false, false, false, false, false, false, false, false, false] rfl rfl (by kernel_rfl) (fun _ _ _ h => h) (Or.inl ⟨by rfl, ?_⟩) ?_ ?_
                rotate_left
                · intro w'
                  go_simp
                  with_reducible rfl
                rotate_left
                · (simp only [Act.put, List.setIfInBounds_toArray, i64_w, i32_w]; dsimp only [List.set_cons_zero, List.set_cons_succ])
                  rfl
                refine pure_ (i := 1) (N := some 65) (v := ?_) (a' := ?_) #[true, true, false, false, false, false, false, false, false, false, false, false, false, false, false, false, false, false] rfl rfl (by kernel_rfl) (fun _ _ _ h => h) (Or.inl ⟨by rfl, ?_⟩) ?_ ?_
                rotate_left
                · intro w'
                  go_simp
                  with_reducible rfl
                rotate_left
                · (simp only [Act.put, List.setIfInBounds_toArray, i64_w, i32_w]; dsimp only [List.set_cons_zero, List.set_cons_succ])
                  rfl
                refine pure_ (i := 2) (N := some 66) (v := ?_) (a' := ?_) #[true, true, true, false, false, false, false, false, false, false, false, false, false, false, false, false, false, false] rfl rfl (by kernel_rfl) (fun _ _ _ h => h) (Or.inl ⟨by rfl, ?_⟩) ?_ ?_
                rotate_left
                · intro w'
                  go_simp
                  with_reducible rfl
                rotate_left
                · (simp only [Act.put, List.setIfInBounds_toArray, i64_w, i32_w]; dsimp only [List.set_cons_zero, List.set_cons_succ])
                  rfl
                refine pure_ (i := 3) (N := some 67) (v := ?_) (a' := ?_) #[true, true, true, true, false, false, false, false, false, false, false, false, false, false, false, false, false, false] rfl rfl (by kernel_rfl) (fun _ _ _ h => h) (Or.inl ⟨by rfl, ?_⟩) ?_ ?_
                rotate_left
                · intro w'
                  go_simp
                  with_reducible rfl
                rotate_left
                · (simp only [Act.put, List.setIfInBounds_toArray, i64_w, i32_w]; dsimp only [List.set_cons_zero, List.set_cons_succ])
                  rfl
                refine pure_ (i := 4) (N := some 68) (v := ?_) (a' := ?_) #[true, true, true, true, true, false, false, false, false, false, false, false, false, false, false, false, false, false] rfl rfl (by kernel_rfl) (fun _ _ _ h => h) (Or.inl ⟨by rfl, ?_⟩) ?_ ?_
                rotate_left
                · intro w'
                  go_simp
                  with_reducible rfl
                rotate_left
                · (simp only [Act.put, List.setIfInBounds_toArray, i64_w, i32_w]; dsimp only [List.set_cons_zero, List.set_cons_succ])
                  rfl
                refine pure_ (i := 5) (N := some 69) (v := ?_) (a' := ?_) #[true, true, true, true, true, true, false, false, false, false, false, false, false, false, false, false, false, false] rfl rfl (by kernel_rfl) (fun _ _ _ h => h) (Or.inl ⟨by rfl, ?_⟩) ?_ ?_
                rotate_left
                · intro w'
                  go_simp
                  with_reducible rfl
                rotate_left
                · (simp only [Act.put, List.setIfInBounds_toArray, i64_w, i32_w]; dsimp only [List.set_cons_zero, List.set_cons_succ])
                  rfl
                refine pure_ (i := 6) (N := some 70) (v := ?_) (a' := ?_) #[true, true, true, true, true, true, true, false, false, false, false, false, false, false, false, false, false, false] rfl rfl (by kernel_rfl) (fun _ _ _ h => h) (Or.inl ⟨by rfl, ?_⟩) ?_ ?_
                rotate_left
                · intro w'
                  go_simp
                  with_reducible rfl
                rotate_left
                · (simp only [Act.put, List.setIfInBounds_toArray, i64_w, i32_w]; dsimp only [List.set_cons_zero, List.set_cons_succ])
                  rfl
                refine pure_ (i := 7) (N := some 71) (v := ?_) (a' := ?_) #[true, true, true, true, true, true, true, true, false, false, false, false, false, false, false, false, false, false] rfl rfl (by kernel_rfl) (fun _ _ _ h => h) (Or.inl ⟨by rfl, ?_⟩) ?_ ?_
                rotate_left
                · intro w'
                  go_simp
                  with_reducible rfl
                rotate_left
                · (simp only [Act.put, List.setIfInBounds_toArray, i64_w, i32_w]; dsimp only [List.set_cons_zero, List.set_cons_succ])
                  rfl
                refine pure_ (i := 8) (N := some 72) (v := ?_) (a' := ?_) #[true, true, true, true, true, true, true, true, true, false, false, false, false, false, false, false, false, false] rfl rfl (by kernel_rfl) (fun _ _ _ h => h) (Or.inl ⟨by rfl, ?_⟩) ?_ ?_
                rotate_left
                · intro w'
                  go_simp
                  with_reducible rfl
                rotate_left
                · (simp only [Act.put, List.setIfInBounds_toArray, i64_w, i32_w]; dsimp only [List.set_cons_zero, List.set_cons_succ])
                  rfl
                refine pure_ (i := 10) (N := some 74) (v := ?_) (a' := ?_) #[true, true, true, true, true, true, true, true, true, false, true, false, false, false, false, false, false, false] rfl rfl (by kernel_rfl) (fun _ _ _ h => h) (Or.inl ⟨by rfl, ?_⟩) ?_ ?_
                rotate_left
                · intro w'
                  go_simp
                  with_reducible rfl
                rotate_left
                · (simp only [Act.put, List.setIfInBounds_toArray, i64_w, i32_w]; dsimp only [List.set_cons_zero, List.set_cons_succ])
                  rfl
                refine pure_ (i := 11) (N := some 75) (v := ?_) (a' := ?_) #[true, true, true, true, true, true, true, true, true, false, true, true, false, false, false, false, false, false] rfl rfl (by kernel_rfl) (fun _ _ _ h => h) (Or.inl ⟨by rfl, ?_⟩) ?_ ?_
                rotate_left
                · intro w'
                  go_simp
                  with_reducible rfl
                rotate_left
                · (simp only [Act.put, List.setIfInBounds_toArray, i64_w, i32_w]; dsimp only [List.set_cons_zero, List.set_cons_succ])
                  rfl
                refine pure_ (i := 12) (N := some 76) (v := ?_) (a' := ?_) #[true, true, true, true, true, true, true, true, true, false, true, true, true, false, false, false, false, false] rfl rfl (by kernel_rfl) (fun _ _ _ h => h) (Or.inl ⟨by rfl, ?_⟩) ?_ ?_
                rotate_left
                · intro w'
                  go_simp
                  with_reducible rfl
                rotate_left
                · (simp only [Act.put, List.setIfInBounds_toArray, i64_w, i32_w]; dsimp only [List.set_cons_zero, List.set_cons_succ])
                  rfl
                refine take_ (i := 9) (N := some 73) (v := ?_) (a' := ?_) #[true, true, true, true, true, true, true, true, true, true, true, true, true, false, false, false, false, false] rfl rfl (by kernel_rfl) (fun _ _ _ h => h) (Or.inl ⟨by rfl, ?_⟩) hHeld ?_ ?_
                rotate_left
                · rintro w' ⟨s0, s1⟩
                  go_simp
                  with_reducible rfl
                rotate_left
                · (simp only [Act.put, List.setIfInBounds_toArray, i64_w, i32_w]; dsimp only [List.set_cons_zero, List.set_cons_succ])
                  rfl
                refine take_ (i := 13) (N := some 77) (v := ?_) (a' := ?_) #[true, true, true, true, true, true, true, true, true, true, true, true, true, true, false, false, false, false] rfl rfl (by kernel_rfl) (fun _ _ _ h => h) (Or.inl ⟨by rfl, ?_⟩) hHeld ?_ ?_
                rotate_left
                · rintro w' ⟨s0, s1⟩
                  go_simp
                  with_reducible rfl
                rotate_left
                · (simp only [Act.put, List.setIfInBounds_toArray, i64_w, i32_w]; dsimp only [List.set_cons_zero, List.set_cons_succ])
                  rfl
                refine pure_ (i := 14) (N := some 78) (v := ?_) (a' := ?_) #[true, true, true, true, true, true, true, true, true, true, true, true, true, true, true, false, false, false] rfl rfl (by kernel_rfl) (fun _ _ _ h => h) (Or.inl ⟨by rfl, ?_⟩) ?_ ?_
                rotate_left
                · intro w'
                  go_simp
                  with_reducible rfl
                rotate_left
                · (simp only [Act.put, List.setIfInBounds_toArray, i64_w, i32_w]; dsimp only [List.set_cons_zero, List.set_cons_succ])
                  rfl
                refine last_ (i := 15) (N := none) #[true, true, true, true, true, true, true, true, true, true, true, true, true, true, true, true, false, false] rfl rfl (by kernel_rfl) (by decide) (fun K hK => ?_)
                refine skip_ (w1 := ?_) (by rfl) rfl ?_ ?_
                rotate_left
                · go_simp
                  rfl
                refine hK.out _ _ ?_
                clear hK K
                refine pure_ (i := 16) (N := some 79) (v := ?_) (a' := ?_) #[true, true, true, true, true, true, true, true, true, true, true, true, true, true, true, true, true, false] rfl rfl (by kernel_rfl) (fun _ _ _ h => h) (Or.inl ⟨by rfl, ?_⟩) ?_ ?_
                rotate_left
                · intro w'
                  go_simp
                  with_reducible rfl
                rotate_left
                · (simp only [Act.put, List.setIfInBounds_toArray, i64_w, i32_w]; dsimp only [List.set_cons_zero, List.set_cons_succ])
                  rfl
                refine last_ (i := 17) (N := none) #[true, true, true, true, true, true, true, true, true, true, true, true, true, true, true, true, true, true] rfl rfl (by kernel_rfl) (by decide) (fun K hK => ?_)
                refine skip_ (w1 := ?_) (by rfl) rfl ?_ ?_
                rotate_left
                · go_simp
                  rfl
                refine hK.out _ _ ?_
                clear hK K
                refine done_ (by kernel_rfl) ?_
                go_wp2_with fail
                exact ⟨⟨p, P1.out, by go_num, HS2, EW, hcp⟩, by first | exact measP | (rw [q7]; simp [intOf])⟩
end Go.Proofs.Ytlagogjnoibkcaa
