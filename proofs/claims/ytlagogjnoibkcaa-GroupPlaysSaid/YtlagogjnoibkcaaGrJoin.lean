/- The groups: Join, Leave, Tear, by contract. -/
import Derived.Test.YtlagogjnoibkcaaGrMeth
import Derived.Test.YtlagogjnoibkcaaStoreMid
import Derived.Test.YtlagogjnoibkcaaWLast
namespace Go.Proofs.Ytlagogjnoibkcaa
open Go.RowKit Go.Proofs.YtlagogjnoibkcaaW.PrintLast
set_option linter.unusedVariables false
set_option linter.unusedSimpArgs false

/-- A number comes into its place. -/
def insG (z : Int) (xs : List Int) : List Int := xs.take (xs.countP (· < z)) ++ z :: xs.drop (xs.countP (· < z))
theorem insG_len (z : Int) (xs : List Int) : (insG z xs).length = xs.length + 1 := by
  unfold insG
  have := List.countP_le_length (p := (· < z)) (l := xs)
  rw [List.length_append, List.length_cons, List.length_take, List.length_drop]; omega
def SortG (M : List Gk) : Prop := ∀ s ∈ M, s.ids.Pairwise (· < ·)
theorem SortG.le {M : List Gk} (h : SortG M) {s : Gk} (hs : s ∈ M) : s.ids.Pairwise (· ≤ ·) := (h s hs).imp (fun h => by omega)
/-- What a joining tells, and what is there then. -/
def joinG (M : List Gk) (g id : Int) : Int × List Gk :=
  if hasM M g = false then (11, M) else match M[(g - 1).toNat]? with
  | none => (11, M)
  | some s => if s.torn then (13, M) else if id < 1 then (2, M) else if 0 < ofG M id then (16, M) else (0, M.set (g - 1).toNat ⟨insG id s.ids, s.torn⟩)
def JoinP (b : Nat) (S : List Nat) (M : List Gk) (g id : Int) (w : World) (e : Ending) (w' : World) : Prop :=
  e = .returned (.int .i64 (joinG M g id).1) ∧ Chg (fun w' S' => GS w' b S' (joinG M g id).2) S w w'
theorem w64i {i : Nat} (h : i < 1000000) : wrap64 (i : Int) = (i : Int) := by unfold wrap64; omega
theorem ws2 {i : Nat} (h : i < 1000000) : wrap64 ((i : Int) + 1) = (i : Int) + 1 := by unfold wrap64; omega

set_option maxHeartbeats 6400000 in
set_option maxRecDepth 100000 in
theorem gs_join (b : Nat) (S : List Nat) (M : List Gk) (g id : Int) (hx : M.length < 10000) (hu : OkG M) (hso : SortG M) (w : World) (h : GS w b S M) :
    Calls Try.prog 27 #[.pointer (some ⟨b, 0, none⟩), .int .i64 g, .int .i64 id] w (JoinP b S M g id w) := by
  unfold JoinP
  have hhs := gs_has b S M g w h
  have hret : ∀ c w', joinG M g id = (c, M) → Ext [] w w' → (Ending.returned (.int .i64 c) = .returned (.int .i64 (joinG M g id).1) ∧ Chg (fun w' S' => GS w' b S' (joinG M g id).2) S w w') := fun c w' hj he => by
    rw [hj]
    exact ⟨rfl, S, h.keep0 he, he.mono (by simp), fun x hx => .inl hx⟩
  have HRET := Lib.hid hret
  clear hret
  cases hh : hasM M g with
  | false =>
    have hj : joinG M g id = (11, M) := by unfold joinG; rw [if_pos hh]
    rw [hh] at hhs
    have HHS := Lib.hid hhs; have HJ := Lib.hid hj
    clear hhs hj h hh hu hso hx
    go_enter Try.func27, Try.ntmps27
    go_wp2_with fail
    refine HHS.out.mono ?_
    rintro e w1 ⟨rfl, rfl⟩
    go_wp2_with fail
    refine bodyPost_ret (v := .int .i64 11) (by simp [results, Try.results27, go_sem]) rfl ?_
    exact HRET.out 11 _ HJ.out (Ext.refl _ _)
  | true =>
    obtain ⟨i, s, rfl, hs⟩ := has_at hh
    rw [hh] at hhs
    have hjf : joinG M ((i : Int) + 1) id = if s.torn then (13, M) else if id < 1 then (2, M) else if 0 < ofG M id then (16, M) else (0, M.set i ⟨insG id s.ids, s.torn⟩) := by
      unfold joinG
      rw [if_neg (by rw [hh]; decide), show ((i : Int) + 1 - 1).toNat = i by omega, hs]
    have hsl := hu s (List.mem_of_getElem? hs)
    have hst := hso.le (List.mem_of_getElem? hs)
    have hof := fun W (hW : Ext [] w W) => gs_of b S M id hx hu W (h.keep0 hW)
    obtain ⟨v, L, h, hS, rfl⟩ := h
    obtain ⟨t, ht, rfl⟩ := abs_at hs
    obtain ⟨a, cap, rfl⟩ := h.ob.row.val
    obtain ⟨n, hn⟩ : ∃ n, n = L.length := ⟨_, rfl⟩
    have hin : i < n := by rw [hn]; exact (List.getElem?_eq_some_iff.1 ht).1
    rw [absG_len, ← hn] at hx
    rw [← hn] at h hS
    obtain ⟨q, rfl, hq⟩ := h.ob.row.addr (by omega)
    have hcv : w.cell? ⟨b, 0, none⟩ = some (.slice (some ⟨q, 0, none⟩) n cap) := h.ob.blk.cell 0
    have c1 := h.ob.row.cell encG_ok.len ht 1 (by omega)
    simp only [encG, List.getElem?_cons_zero, List.getElem?_cons_succ] at c1
    have b1 : (0 : Int) ≤ (i : Int) := by omega
    have b2 : (i : Int) < (n : Int) := by omega
    have hi6 : i < 1000000 := by omega
    have hsl2 : t.ids.length < 100000 := hsl
    have HHS := Lib.hid hhs; have HJF := Lib.hid hjf; have HOF := Lib.hid hof; have HT := Lib.hid h; have HS := Lib.hid hS; have H1 := Lib.hid ht; have HSL := Lib.hid hsl2; have HST := Lib.hid hst
    clear hhs hjf hof h hS hh hs ht hn hu hso hsl hsl2 hst
    cases htt : t.torn with
    | true =>
      rw [htt] at c1
      have hj := HJF.out
      rw [if_pos (show t.abs.torn = true from htt)] at hj
      have HJ := Lib.hid hj
      clear hj htt
      have f1 := ws1 hi6
      go_enter Try.func27, Try.ntmps27
      go_wp2_with fail
      refine HHS.out.mono ?_
      rintro e w1 ⟨rfl, rfl⟩
      go_wp2_with fail
      refine bodyPost_ret (v := .int .i64 13) (by simp [results, Try.results27, go_sem]) rfl ?_
      exact HRET.out 13 _ HJ.out (Ext.refl _ _)
    | false =>
      rw [htt] at c1
      have hj := HJF.out
      rw [if_neg (show ¬ t.abs.torn = true by rw [show t.abs.torn = t.torn from rfl, htt]; decide)] at hj
      by_cases hid1 : id < 1
      · have d1 : decide (id < 1) = true := decide_eq_true hid1
        rw [if_pos hid1] at hj
        have HJ := Lib.hid hj
        clear hj hid1 htt
        have f1 := ws1 hi6
        go_enter Try.func27, Try.ntmps27
        go_wp2_with fail
        refine HHS.out.mono ?_
        rintro e w1 ⟨rfl, rfl⟩
        go_wp2_with fail
        refine bodyPost_ret (v := .int .i64 2) (by simp [results, Try.results27, go_sem]) rfl ?_
        exact HRET.out 2 _ HJ.out (Ext.refl _ _)
      · have d1 : decide (id < 1) = false := decide_eq_false hid1
        rw [if_neg hid1] at hj
        clear hid1
        obtain ⟨o, ho⟩ : ∃ o, o = ofG (absG L) id := ⟨_, rfl⟩
        rw [← ho] at hj HOF
        by_cases hop : 0 < o
        · have d2 : decide (0 < o) = true := decide_eq_true hop
          rw [if_pos hop] at hj
          have HJ := Lib.hid hj
          clear hj htt ho
          have f1 := ws1 hi6
          go_enter Try.func27, Try.ntmps27
          go_wp2_with fail
          refine HHS.out.mono ?_
          rintro e w1 ⟨rfl, rfl⟩
          go_wp2_with fail
          refine (HOF.out _ (Ext.refl _ _)).mono ?_
          rintro e w1 ⟨rfl, e1⟩
          go_wp2_with fail
          refine bodyPost_ret (v := .int .i64 16) (by simp [results, Try.results27, go_sem]) rfl ?_
          exact HRET.out 16 _ HJ.out e1
        · have d2 : decide (0 < o) = false := decide_eq_false hop
          rw [if_neg hop] at hj
          have HJ := Lib.hid hj
          clear hj htt ho hop HRET HJF
          have f1 := ws1 hi6
          go_enter Try.func27, Try.ntmps27
          go_wp2_with fail
          refine HHS.out.mono ?_
          rintro e w1 ⟨rfl, rfl⟩
          go_wp2_with fail
          refine (HOF.out _ (Ext.refl _ _)).mono ?_
          rintro e w1 ⟨rfl, e1⟩
          have hT1 := HT.out.keep0 e1
          obtain ⟨l, hl⟩ : ∃ l, l = t.ids.length := ⟨_, rfl⟩
          have hcv1 : w1.cell? ⟨b, 0, none⟩ = some (.slice (some ⟨q, 0, none⟩) n cap) := hT1.ob.blk.cell 0
          have c0 := hT1.ob.row.cell encG_ok.len H1.out 0 (by omega)
          simp only [encG, Gr.row, Nat.add_zero, List.getElem?_cons_zero, List.getElem?_cons_succ] at c0
          have hri := hT1.inn t (List.mem_of_getElem? H1.out)
          unfold Gr.row at hri
          have hl5 := HSL.out
          rw [← hl] at c0 hri hl5
          have hsr := search_any (.slice t.ma l t.mc) t.ids id (by rw [← hl]; omega) HST.out w1 hri
          have hkl : t.ids.countP (· < id) ≤ t.ids.length := List.countP_le_length
          obtain ⟨k, hk⟩ : ∃ k, k = t.ids.countP (· < id) := ⟨_, rfl⟩
          rw [← hk] at hsr hkl
          have HT1 := Lib.hid hT1; have HSR := Lib.hid hsr; have HL := Lib.hid hl; have HK := Lib.hid hk; have E1 := Lib.hid e1; have HKL := Lib.hid hkl; have HRI := Lib.hid hri
          clear hT1 hsr hl hk e1 hkl hri c1 hcv
          go_wp2_with fail
          clear hcv1 c0
          refine HSR.out.mono ?_
          rintro e w2 ⟨rfl, e2⟩
          have hT2 := HT1.out.keep0 e2
          have x2 := E1.out.trans e2 (by simp)
          have hri2 := HRI.out.keep e2 (by simp)
          have hcv2 : w2.drew.cell? ⟨b, 0, none⟩ = some (.slice (some ⟨q, 0, none⟩) n cap) := hT2.ob.blk.cell 0
          have c2 : w2.drew.cell? ⟨q, i * 2, none⟩ = some (.slice t.ma l t.mc) := by
            have := hT2.ob.row.cell encG_ok.len H1.out 0 (by omega)
            simp only [encG, Gr.row, Nat.add_zero, List.getElem?_cons_zero, List.getElem?_cons_succ] at this
            rw [← HL.out] at this
            exact this
          have eA : Ext [] w2 ((w2.alloc (.cells #[.int .i64 id] 3 (0, 0))).drew) := ((Ext.refl _ _).alloc _).drew
          have hblk : Blk ((w2.alloc (.cells #[.int .i64 id] 3 (0, 0))).drew) w2.heap.size #[.int .i64 id] 3 := Blk.new _ _ _
          have hlt2 := hri2.lt
          have hins := insert_any (.slice t.ma l t.mc) t.ids k id w2.heap.size HKL.out HSL.out _ (hri2.keep eA (by simp)) hblk (fun e => by have := hlt2 _ e; omega)
          unfold InsP at hins
          rw [← HL.out] at hins
          have hown : (Value.slice t.ma l t.mc).ownBlock = t.row.ownBlock := by rw [HL.out]; rfl
          have hsm := List.mem_of_getElem? H1.out
          have hapg : ∀ y, t.row.ownBlock = some y → y ∉ b :: (Value.slice (some ⟨q, 0, none⟩) n cap).ownBlock.toList := fun y hy => hT2.apart (by decide) (by decide) y (mem_gOwn hsm hy)
          have kk : ∀ W, Ext t.row.ownBlock.toList w2 W → W.cell? ⟨b, 0, none⟩ = some (.slice (some ⟨q, 0, none⟩) n cap) ∧ W.cell? ⟨q, i * 2, none⟩ = some (.slice t.ma l t.mc) ∧ W.frozen? ⟨q, i * 2, none⟩ = false := fun W hW => by
            have ho := hT2.ob.keep hW (fun y hy hm => hapg y (by simpa using hm) hy)
            have h6 := ho.row.cell encG_ok.len H1.out 0 (by omega)
            simp only [encG, Gr.row, Nat.add_zero, List.getElem?_cons_zero, List.getElem?_cons_succ] at h6
            rw [← HL.out] at h6
            exact ⟨ho.blk.cell 0, h6, ho.row.free _⟩
          have KK := Lib.hid kk; have HINS := Lib.hid hins; have HT2 := Lib.hid hT2; have X2 := Lib.hid x2; have HOWN := Lib.hid hown; have EA := Lib.hid eA
          clear kk hins hT2 x2 hown hapg hsm hri2 hblk hlt2 e2 HSR HT1 E1 HRI eA
          go_wp2_with fail
          have f2 := w64i hi6
          refine start_ (n := 22) (S := fun w' => w'.cell? ⟨b, 0, none⟩ = some (.slice (some ⟨q, 0, none⟩) n cap) ∧ w'.cell? ⟨q, i * 2, none⟩ = some (.slice t.ma l t.mc) ∧ (0 : Int) ≤ (i : Int) ∧ (i : Int) < (n : Int)) (ds := [21]) #[false, false, false, false, false, false, false, false, false, false, false, false, false, false, false, false, false, false, false, false, false, false] (by kernel_rfl) rfl rfl ⟨hcv2, c2, b1, b2⟩ (fun hHeld => ?_)
          refine pure_ (i := 0) (N := some 49) (v := ?_) (a' := ?_) #[true, false, false, false, false, false, false, false, false, false, false, false, false, false, false, false, false, false, false, false, false, false] rfl rfl (by kernel_rfl) (fun _ _ _ h => h) (Or.inl ⟨by rfl, ?_⟩) ?_ ?_
          rotate_left
          · intro w'
            go_simp
            with_reducible rfl
          rotate_left
          · (simp only [Act.put, List.setIfInBounds_toArray, i64_w, i32_w]; dsimp only [List.set_cons_zero, List.set_cons_succ])
            rfl
          refine pure_ (i := 1) (N := some 50) (v := ?_) (a' := ?_) #[true, true, false, false, false, false, false, false, false, false, false, false, false, false, false, false, false, false, false, false, false, false] rfl rfl (by kernel_rfl) (fun _ _ _ h => h) (Or.inl ⟨by rfl, ?_⟩) ?_ ?_
          rotate_left
          · intro w'
            go_simp
            with_reducible rfl
          rotate_left
          · (simp only [Act.put, List.setIfInBounds_toArray, i64_w, i32_w]; dsimp only [List.set_cons_zero, List.set_cons_succ])
            rfl
          refine pure_ (i := 2) (N := some 51) (v := ?_) (a' := ?_) #[true, true, true, false, false, false, false, false, false, false, false, false, false, false, false, false, false, false, false, false, false, false] rfl rfl (by kernel_rfl) (fun _ _ _ h => h) (Or.inl ⟨by rfl, ?_⟩) ?_ ?_
          rotate_left
          · intro w'
            go_simp
            with_reducible rfl
          rotate_left
          · (simp only [Act.put, List.setIfInBounds_toArray, i64_w, i32_w]; dsimp only [List.set_cons_zero, List.set_cons_succ])
            rfl
          refine pure_ (i := 4) (N := some 53) (v := ?_) (a' := ?_) #[true, true, true, false, true, false, false, false, false, false, false, false, false, false, false, false, false, false, false, false, false, false] rfl rfl (by kernel_rfl) (fun _ _ _ h => h) (Or.inl ⟨by rfl, ?_⟩) ?_ ?_
          rotate_left
          · intro w'
            go_simp
            with_reducible rfl
          rotate_left
          · (simp only [Act.put, List.setIfInBounds_toArray, i64_w, i32_w]; dsimp only [List.set_cons_zero, List.set_cons_succ])
            rfl
          refine pure_ (i := 5) (N := some 54) (v := ?_) (a' := ?_) #[true, true, true, false, true, true, false, false, false, false, false, false, false, false, false, false, false, false, false, false, false, false] rfl rfl (by kernel_rfl) (fun _ _ _ h => h) (Or.inl ⟨by rfl, ?_⟩) ?_ ?_
          rotate_left
          · intro w'
            go_simp
            with_reducible rfl
          rotate_left
          · (simp only [Act.put, List.setIfInBounds_toArray, i64_w, i32_w]; dsimp only [List.set_cons_zero, List.set_cons_succ])
            rfl
          refine pure_ (i := 6) (N := some 55) (v := ?_) (a' := ?_) #[true, true, true, false, true, true, true, false, false, false, false, false, false, false, false, false, false, false, false, false, false, false] rfl rfl (by kernel_rfl) (fun _ _ _ h => h) (Or.inl ⟨by rfl, ?_⟩) ?_ ?_
          rotate_left
          · intro w'
            go_simp
            with_reducible rfl
          rotate_left
          · (simp only [Act.put, List.setIfInBounds_toArray, i64_w, i32_w]; dsimp only [List.set_cons_zero, List.set_cons_succ])
            rfl
          refine pure_ (i := 7) (N := some 56) (v := ?_) (a' := ?_) #[true, true, true, false, true, true, true, true, false, false, false, false, false, false, false, false, false, false, false, false, false, false] rfl rfl (by kernel_rfl) (fun _ _ _ h => h) (Or.inl ⟨by rfl, ?_⟩) ?_ ?_
          rotate_left
          · intro w'
            go_simp
            with_reducible rfl
          rotate_left
          · (simp only [Act.put, List.setIfInBounds_toArray, i64_w, i32_w]; dsimp only [List.set_cons_zero, List.set_cons_succ])
            rfl
          refine pure_ (i := 8) (N := some 57) (v := ?_) (a' := ?_) #[true, true, true, false, true, true, true, true, true, false, false, false, false, false, false, false, false, false, false, false, false, false] rfl rfl (by kernel_rfl) (fun _ _ _ h => h) (Or.inl ⟨by rfl, ?_⟩) ?_ ?_
          rotate_left
          · intro w'
            go_simp
            with_reducible rfl
          rotate_left
          · (simp only [Act.put, List.setIfInBounds_toArray, i64_w, i32_w]; dsimp only [List.set_cons_zero, List.set_cons_succ])
            rfl
          refine pure_ (i := 10) (N := some 59) (v := ?_) (a' := ?_) #[true, true, true, false, true, true, true, true, true, false, true, false, false, false, false, false, false, false, false, false, false, false] rfl rfl (by kernel_rfl) (fun _ _ _ h => h) (Or.inl ⟨by rfl, ?_⟩) ?_ ?_
          rotate_left
          · intro w'
            go_simp
            with_reducible rfl
          rotate_left
          · (simp only [Act.put, List.setIfInBounds_toArray, i64_w, i32_w]; dsimp only [List.set_cons_zero, List.set_cons_succ])
            rfl
          refine pure_ (i := 11) (N := some 60) (v := ?_) (a' := ?_) #[true, true, true, false, true, true, true, true, true, false, true, true, false, false, false, false, false, false, false, false, false, false] rfl rfl (by kernel_rfl) (fun _ _ _ h => h) (Or.inl ⟨by rfl, ?_⟩) ?_ ?_
          rotate_left
          · intro w'
            go_simp
            with_reducible rfl
          rotate_left
          · (simp only [Act.put, List.setIfInBounds_toArray, i64_w, i32_w]; dsimp only [List.set_cons_zero, List.set_cons_succ])
            rfl
          refine pure_ (i := 15) (N := some 64) (v := ?_) (a' := ?_) #[true, true, true, false, true, true, true, true, true, false, true, true, false, false, false, true, false, false, false, false, false, false] rfl rfl (by kernel_rfl) (fun _ _ _ h => h) (Or.inl ⟨by rfl, ?_⟩) ?_ ?_
          rotate_left
          · intro w'
            go_simp
            with_reducible rfl
          rotate_left
          · (simp only [Act.put, List.setIfInBounds_toArray, i64_w, i32_w]; dsimp only [List.set_cons_zero, List.set_cons_succ])
            rfl
          refine pure_ (i := 16) (N := some 65) (v := ?_) (a' := ?_) #[true, true, true, false, true, true, true, true, true, false, true, true, false, false, false, true, true, false, false, false, false, false] rfl rfl (by kernel_rfl) (fun _ _ _ h => h) (Or.inl ⟨by rfl, ?_⟩) ?_ ?_
          rotate_left
          · intro w'
            go_simp
            with_reducible rfl
          rotate_left
          · (simp only [Act.put, List.setIfInBounds_toArray, i64_w, i32_w]; dsimp only [List.set_cons_zero, List.set_cons_succ])
            rfl
          refine take_ (i := 3) (N := some 52) (v := ?_) (a' := ?_) #[true, true, true, true, true, true, true, true, true, false, true, true, false, false, false, true, true, false, false, false, false, false] rfl rfl (by kernel_rfl) (fun _ _ _ h => h) (Or.inl ⟨by rfl, ?_⟩) hHeld ?_ ?_
          rotate_left
          · rintro w' ⟨s0, s1, s2, s3⟩
            go_simp
            with_reducible rfl
          rotate_left
          · (simp only [Act.put, List.setIfInBounds_toArray, i64_w, i32_w]; dsimp only [List.set_cons_zero, List.set_cons_succ])
            rfl
          refine take_ (i := 9) (N := some 58) (v := ?_) (a' := ?_) #[true, true, true, true, true, true, true, true, true, true, true, true, false, false, false, true, true, false, false, false, false, false] rfl rfl (by kernel_rfl) (fun _ _ _ h => h) (Or.inl ⟨by rfl, ?_⟩) hHeld ?_ ?_
          rotate_left
          · rintro w' ⟨s0, s1, s2, s3⟩
            go_simp
            with_reducible rfl
          rotate_left
          · (simp only [Act.put, List.setIfInBounds_toArray, i64_w, i32_w]; dsimp only [List.set_cons_zero, List.set_cons_succ])
            rfl
          refine pure_ (i := 12) (N := some 61) (v := ?_) (a' := ?_) #[true, true, true, true, true, true, true, true, true, true, true, true, true, false, false, true, true, false, false, false, false, false] rfl rfl (by kernel_rfl) (fun _ _ _ h => h) (Or.inl ⟨by rfl, ?_⟩) ?_ ?_
          rotate_left
          · intro w'
            go_simp
            with_reducible rfl
          rotate_left
          · (simp only [Act.put, List.setIfInBounds_toArray, i64_w, i32_w]; dsimp only [List.set_cons_zero, List.set_cons_succ])
            rfl
          refine pure_ (i := 13) (N := some 62) (v := ?_) (a' := ?_) #[true, true, true, true, true, true, true, true, true, true, true, true, true, true, false, true, true, false, false, false, false, false] rfl rfl (by kernel_rfl) (fun _ _ _ h => h) (Or.inl ⟨by rfl, ?_⟩) ?_ ?_
          rotate_left
          · intro w'
            go_simp
            with_reducible rfl
          rotate_left
          · (simp only [Act.put, List.setIfInBounds_toArray, i64_w, i32_w]; dsimp only [List.set_cons_zero, List.set_cons_succ])
            rfl
          refine take_ (i := 14) (N := some 63) (v := ?_) (a' := ?_) #[true, true, true, true, true, true, true, true, true, true, true, true, true, true, true, true, true, false, false, false, false, false] rfl rfl (by kernel_rfl) (fun _ _ _ h => h) (Or.inl ⟨by rfl, ?_⟩) hHeld ?_ ?_
          rotate_left
          · rintro w' ⟨s0, s1, s2, s3⟩
            go_simp
            with_reducible rfl
          rotate_left
          · (simp only [Act.put, List.setIfInBounds_toArray, i64_w, i32_w]; dsimp only [List.set_cons_zero, List.set_cons_succ])
            rfl
          refine one_ (i := 17) (N := some 66) #[true, true, true, true, true, true, true, true, true, true, true, true, true, true, true, true, true, true, false, false, false, false] rfl rfl (by kernel_rfl) (by decide) (fun K hK => ?_)
          refine value_ (w1 := ?_) (v := ?_) (by rfl) rfl ?_ ?_
          rotate_left 2
          · go_simp
            constructor
            · rfl
            · rfl
          refine hK.out _ _ ⟨(KK.out _ (EA.out.mono (by simp))).1, (KK.out _ (EA.out.mono (by simp))).2.1, b1, b2⟩ (fun hHeld => ?_)
          clear hK K
          refine norm_ (a' := ?_) ?_ ?_
          rotate_left
          · show Act.put _ (some 66) _ = _
            (simp only [Act.put, List.setIfInBounds_toArray, i64_w, i32_w]; dsimp only [List.set_cons_zero, List.set_cons_succ])
            rfl
          refine one_ (i := 18) (N := some 67) #[true, true, true, true, true, true, true, true, true, true, true, true, true, true, true, true, true, true, true, false, false, false] rfl rfl (by kernel_rfl) (by decide) (fun K hK => ?_)
          refine goes_ Try.func51 (by kernel_rfl) rfl #[.slice t.ma l t.mc, .int .i64 k, .slice (some ⟨w2.heap.size, 0, none⟩) 1 1] (by rfl) rfl rfl (by simp only [List.map_toArray, List.map_cons, List.map_nil]; rfl) ?_
          with_reducible refine (HINS.out).mono ?_
          rintro e w7 ⟨a7, c7, rfl, hr7, x7, g7⟩
          refine ⟨_, rfl, ?_⟩
          have e7 : Ext t.row.ownBlock.toList w2 w7 := (EA.out.mono (by simp)).trans x7 (fun y hy => .inl (by rw [HOWN.out] at hy; exact hy))
          have hfz := (KK.out _ e7).2.2
          refine hK.out _ _ ⟨(KK.out _ e7).1, (KK.out _ e7).2.1, b1, b2⟩ (fun hHeld => ?_)
          clear hK K
          refine norm_ (a' := ?_) ?_ ?_
          rotate_left
          · show Act.put _ (some 67) _ = _
            (simp only [Act.put, List.setIfInBounds_toArray, i64_w, i32_w]; dsimp only [List.set_cons_zero, List.set_cons_succ])
            rfl
          refine pure_ (i := 19) (N := some 68) (v := ?_) (a' := ?_) #[true, true, true, true, true, true, true, true, true, true, true, true, true, true, true, true, true, true, true, true, false, false] rfl rfl (by kernel_rfl) (fun _ _ _ h => h) (Or.inl ⟨by rfl, ?_⟩) ?_ ?_
          rotate_left
          · intro w'
            go_simp
            with_reducible rfl
          rotate_left
          · (simp only [Act.put, List.setIfInBounds_toArray, i64_w, i32_w]; dsimp only [List.set_cons_zero, List.set_cons_succ])
            rfl
          refine pure_ (i := 20) (N := some 69) (v := ?_) (a' := ?_) #[true, true, true, true, true, true, true, true, true, true, true, true, true, true, true, true, true, true, true, true, true, false] rfl rfl (by kernel_rfl) (fun _ _ _ h => h) (Or.inl ⟨by rfl, ?_⟩) ?_ ?_
          rotate_left
          · intro w'
            go_simp
            with_reducible rfl
          rotate_left
          · (simp only [Act.put, List.setIfInBounds_toArray, i64_w, i32_w]; dsimp only [List.set_cons_zero, List.set_cons_succ])
            rfl
          refine last_ (i := 21) (N := none) #[true, true, true, true, true, true, true, true, true, true, true, true, true, true, true, true, true, true, true, true, true, true] rfl rfl (by kernel_rfl) (by decide) (fun K hK => ?_)
          refine skip_ (w1 := ?_) (by rfl) rfl ?_ ?_
          rotate_left
          · go_simp
            rfl
          refine hK.out _ _ ?_
          clear hK K
          refine done_ (by kernel_rfl) ?_
          have hil : (insG id t.ids).length = l + 1 := by rw [insG_len, ← HL.out]
          have hig : t.ids.take k ++ id :: t.ids.drop k = insG id t.ids := by unfold insG; rw [← HK.out]
          rw [hig] at hr7
          rw [← hil] at hr7 g7
          have hsz2 := EA.out.size
          have hset := HT2.out.set_one (by decide) (by decide) (s' := ⟨a7, c7, insG id t.ids, t.torn⟩) (W := w7.setCell ⟨q, i * 2, none⟩ (.slice a7 (insG id t.ids).length c7)) H1.out e7 hr7 (fun y hy => (g7 y hy).imp (fun h => by rw [HOWN.out] at h; exact h) (fun h => by omega)) ((Ext.refl [q] _).setCell (Or.inl (by simp)) _) (fun hs hr => hr.put1 encG_ok.len (j := 0) (by omega) hs _ _ rfl)
          rw [hil] at hset
          obtain ⟨hT8, hE8, hO8⟩ := hset
          have HT8 := Lib.hid hT8; have HE8 := Lib.hid hE8; have HO8 := Lib.hid hO8
          clear hr7 x7 g7 e7 hfz hT8 hE8 hO8 hil hig hcv2 c2 f1 f2
          go_wp2_with fail
          refine bodyPost_ret (v := .int .i64 0) (by simp [results, Try.results27, go_sem]) rfl ?_
          have hSS : ∀ y, y ∈ (b :: [q]) ++ gOwn L → y ∈ S := fun y hy => by rw [HS.out]; exact hy
          rw [HJ.out]
          refine ⟨rfl, _, ⟨_, _, HT8.out, rfl, by rw [absG_set]; rfl⟩, (X2.out.mono (by simp)).trans HE8.out (fun y hy => .inl (hSS y hy)), ?_⟩
          intro y hy
          rcases List.mem_append.1 hy with hy | hy
          · exact .inl (hSS y (List.mem_append_left _ hy))
          · exact (HO8.out y hy).imp (fun h => hSS y (List.mem_append_right _ h)) (fun h => Nat.le_trans X2.out.size h)
end Go.Proofs.Ytlagogjnoibkcaa
