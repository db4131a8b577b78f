/- The groups: Leave, Tear, by contract. -/
import Derived.Test.YtlagogjnoibkcaaGrJoin
namespace Go.Proofs.Ytlagogjnoibkcaa
open Go.RowKit Go.Proofs.YtlagogjnoibkcaaW.PrintLast
set_option linter.unusedVariables false
set_option linter.unusedSimpArgs false

/-- What a leaving tells, and what is there then. -/
def leaveG (M : List Gk) (id : Int) : (Int × Bool) × List Gk := match M.findIdx? (inA id) with
  | none => ((0, false), M)
  | some i => match M[i]? with
    | none => ((0, false), M)
    | some s => (((i : Int) + 1, true), M.set i ⟨s.ids.eraseIdx (s.ids.countP (· < id)), s.torn⟩)
def LeaveP (b : Nat) (S : List Nat) (M : List Gk) (id : Int) (w : World) (e : Ending) (w' : World) : Prop :=
  e = .returned (.tuple #[.int .i64 (leaveG M id).1.1, .bool (leaveG M id).1.2]) ∧ Chg (fun w' S' => GS w' b S' (leaveG M id).2) S w w'
theorem find_ofG {α : Type} {p : α → Bool} {xs : List α} {i : Nat} {x : α} (h : xs[i]? = some x) (hp : p x = true) (hj : ∀ (j : Nat) y, j < i → xs[j]? = some y → p y = false) : xs.findIdx? p = some i := by
  rw [List.findIdx?_eq_some_iff_getElem]
  have hi := (List.getElem?_eq_some_iff.1 h).1
  refine ⟨hi, by rw [List.getElem?_eq_getElem hi] at h; injection h with h; rw [h]; exact hp, fun j hji => ?_⟩
  rw [hj j _ hji (List.getElem?_eq_getElem (by omega))]; simp
theorem count_lt {xs : List Int} {z : Int} (h : hasI xs z = true) : xs.countP (· < z) < xs.length := by
  unfold hasI at h
  rw [List.any_eq_true] at h
  obtain ⟨y, hy, hz⟩ := h
  have hz : z = y := by simpa using hz
  subst hz
  rcases Nat.lt_or_ge (xs.countP (· < z)) xs.length with h1 | h1
  · exact h1
  · have h2 := List.countP_le_length (p := (· < z)) (l := xs)
    have h3 := (List.countP_eq_length (p := (· < z)) (l := xs)).1 (by omega) z hy
    simp at h3

set_option maxHeartbeats 6400000 in
set_option maxRecDepth 100000 in
theorem gs_leave (b : Nat) (S : List Nat) (M : List Gk) (id : Int) (hx : M.length < 10000) (hu : OkG M) (hso : SortG M) (w : World) (h : GS w b S M) :
    Calls Try.prog 35 #[.pointer (some ⟨b, 0, none⟩), .int .i64 id] w (LeaveP b S M id w) := by
  unfold LeaveP
  have hof := gs_of b S M id hx hu w h
  unfold ofG at hof
  rcases idxI_spec (inA id) M with ⟨h1, h2⟩ | ⟨i, s, h1, h2, h3, h4⟩
  · rw [h1] at hof
    have hm : leaveG M id = ((0, false), M) := by
      unfold leaveG
      rw [List.findIdx?_eq_none_iff.2 h2]
    have HM := Lib.hid hm; have HOF := Lib.hid hof; have HH := Lib.hid h
    clear h1 h2 hm hof h hx hu hso
    go_enter Try.func35, Try.ntmps35
    go_wp2_with fail
    refine HOF.out.mono ?_
    rintro e w1 ⟨rfl, e1⟩
    go_wp2_with fail
    refine bodyPost_ret (v := .tuple #[.int .i64 0, .bool false]) (by simp [results, Try.results35, go_sem]) rfl ?_
    exact ⟨by rw [HM.out], S, by rw [HM.out]; exact HH.out.keep0 e1, e1.mono (by simp), fun x hx => .inl hx⟩
  · rw [h4, show (1 : Int) + (i : Int) = (i : Int) + 1 by omega] at hof
    have hm : leaveG M id = (((i : Int) + 1, true), M.set i ⟨s.ids.eraseIdx (s.ids.countP (· < id)), s.torn⟩) := by
      unfold leaveG
      rw [find_ofG h1 h2 h3]
      simp only [h1]
    have hst := hso.le (List.mem_of_getElem? h1)
    have hsl := hu s (List.mem_of_getElem? h1)
    have hcl := count_lt (show hasI s.ids id = true from h2)
    obtain ⟨v, L, h, hS, rfl⟩ := h
    obtain ⟨t, ht, rfl⟩ := abs_at h1
    obtain ⟨a, cap, rfl⟩ := h.ob.row.val
    obtain ⟨n, hn⟩ : ∃ n, n = L.length := ⟨_, rfl⟩
    have hin : i < n := by rw [hn]; exact (List.getElem?_eq_some_iff.1 ht).1
    rw [absG_len, ← hn] at hx
    rw [← hn] at h hS
    obtain ⟨q, rfl, hq⟩ := h.ob.row.addr (by omega)
    have hi6 : i < 1000000 := by omega
    have b1 : (0 : Int) ≤ (i : Int) := by omega
    have b2 : (i : Int) < (n : Int) := by omega
    have d0 : (((i : Int) + 1) == 0) = false := by simp; omega
    obtain ⟨l, hl⟩ : ∃ l, l = t.ids.length := ⟨_, rfl⟩
    have hsl2 : t.ids.length < 100000 := hsl
    obtain ⟨k, hk⟩ : ∃ k, k = t.ids.countP (· < id) := ⟨_, rfl⟩
    have hcl2 : t.ids.countP (· < id) < t.ids.length := hcl
    rw [← hk, ← hl] at hcl2
    have HM := Lib.hid hm; have HOF := Lib.hid hof; have HT := Lib.hid h; have HS := Lib.hid hS; have H1 := Lib.hid ht; have HST := Lib.hid hst; have HL := Lib.hid hl; have HK := Lib.hid hk; have HSL := Lib.hid hsl2
    have hl5 : l < 100000 := by omega
    clear h1 h2 h3 h4 hm hof h hS ht hst hl hk hsl hsl2 hcl hu hso hn
    have f1 := ws1 hi6
    go_enter Try.func35, Try.ntmps35
    go_wp2_with fail
    refine HOF.out.mono ?_
    rintro e w1 ⟨rfl, e1⟩
    have hT1 := HT.out.keep0 e1
    have hcv1 : w1.cell? ⟨b, 0, none⟩ = some (.slice (some ⟨q, 0, none⟩) n cap) := hT1.ob.blk.cell 0
    have c0 := hT1.ob.row.cell encG_ok.len H1.out 0 (by omega)
    simp only [encG, Gr.row, Nat.add_zero, List.getElem?_cons_zero, List.getElem?_cons_succ] at c0
    have hri := hT1.inn t (List.mem_of_getElem? H1.out)
    unfold Gr.row at hri
    rw [← HL.out] at c0 hri
    have hsr := search_any (.slice t.ma l t.mc) t.ids id (by rw [← HL.out]; omega) HST.out w1 hri
    rw [← HK.out] at hsr
    obtain ⟨mg, hma, hmg⟩ := hri.addr (by omega)
    rw [hma] at c0 hri hsr
    have HT1 := Lib.hid hT1; have HSR := Lib.hid hsr; have E1 := Lib.hid e1; have HRI := Lib.hid hri; have HMA := Lib.hid hma
    clear hT1 hsr e1 hri hma
    go_wp2_with fail
    clear hcv1 c0
    refine HSR.out.mono ?_
    rintro e w2 ⟨rfl, e2⟩
    have hT2 := HT1.out.keep0 e2
    have x2 := E1.out.trans e2 (by simp)
    have hri2 := HRI.out.keep e2 (by simp)
    have hcv2 : w2.drew.cell? ⟨b, 0, none⟩ = some (.slice (some ⟨q, 0, none⟩) n cap) := hT2.ob.blk.cell 0
    have c2 : w2.drew.cell? ⟨q, i * 2, none⟩ = some (.slice (some ⟨mg, 0, none⟩) l t.mc) := by
      have := hT2.ob.row.cell encG_ok.len H1.out 0 (by omega)
      simp only [encG, Gr.row, Nat.add_zero, List.getElem?_cons_zero, List.getElem?_cons_succ] at this
      rw [← HL.out, HMA.out] at this
      exact this
    have hdel := gi_delete (encI .i64) encI_ok mg l t.mc k t.ids hcl2 (by omega) w2.drew (hri2.drew)
    have hown : t.row.ownBlock = some mg := by unfold Gr.row; rw [HMA.out]; rfl
    have hsm := List.mem_of_getElem? H1.out
    have hapg : ∀ y, t.row.ownBlock = some y → y ∉ b :: (Value.slice (some ⟨q, 0, none⟩) n cap).ownBlock.toList := fun y hy => hT2.apart (by decide) (by decide) y (mem_gOwn hsm hy)
    have kk : ∀ W, Ext t.row.ownBlock.toList w2 W → W.cell? ⟨b, 0, none⟩ = some (.slice (some ⟨q, 0, none⟩) n cap) ∧ W.cell? ⟨q, i * 2, none⟩ = some (.slice (some ⟨mg, 0, none⟩) l t.mc) ∧ W.frozen? ⟨q, i * 2, none⟩ = false := fun W hW => by
      have ho := hT2.ob.keep hW (fun y hy hm => hapg y (by simpa using hm) hy)
      have h6 := ho.row.cell encG_ok.len H1.out 0 (by omega)
      simp only [encG, Gr.row, Nat.add_zero, List.getElem?_cons_zero, List.getElem?_cons_succ] at h6
      rw [← HL.out, HMA.out] at h6
      exact ⟨ho.blk.cell 0, h6, ho.row.free _⟩
    have hk6 : k < 1000000 := by omega
    obtain ⟨l1, hl1⟩ : ∃ l1, l1 = l - 1 := ⟨_, rfl⟩
    rw [← hl1] at hdel
    rw [← ws2 hk6] at hdel
    have hle : (t.ids.eraseIdx k).length = l1 := by rw [List.length_eraseIdx, if_pos (by rw [← HL.out]; exact hcl2), ← HL.out, hl1]
    have KK := Lib.hid kk; have HDEL := Lib.hid hdel; have HT2 := Lib.hid hT2; have X2 := Lib.hid x2; have HOWN := Lib.hid hown; have HLE := Lib.hid hle
    clear kk hdel hT2 x2 hown hapg hsm hri2 e2 HSR HT1 E1 HRI hle hl1
    go_wp2_with fail
    have f2 := w64i hi6
    refine start_ (n := 22) (S := fun w' => w'.cell? ⟨b, 0, none⟩ = some (.slice (some ⟨q, 0, none⟩) n cap) ∧ w'.cell? ⟨q, i * 2, none⟩ = some (.slice (some ⟨mg, 0, none⟩) l t.mc) ∧ (0 : Int) ≤ (i : Int) ∧ (i : Int) < (n : Int)) (ds := [21]) #[false, false, false, false, false, false, false, false, false, false, false, false, false, false, false, false, false, false, false, false, false, false] (by kernel_rfl) rfl rfl ⟨hcv2, c2, b1, b2⟩ (fun hHeld => ?_)
    refine pure_ (i := 0) (N := some 28) (v := ?_) (a' := ?_) #[true, false, false, false, false, false, false, false, false, false, false, false, false, false, false, false, false, false, false, false, false, false] rfl rfl (by kernel_rfl) (fun _ _ _ h => h) (Or.inl ⟨by rfl, ?_⟩) ?_ ?_
    rotate_left
    · intro w'
      go_simp
      with_reducible rfl
    rotate_left
    · (simp only [Act.put, List.setIfInBounds_toArray, i64_w, i32_w]; dsimp only [List.set_cons_zero, List.set_cons_succ])
      rfl
    refine pure_ (i := 1) (N := some 29) (v := ?_) (a' := ?_) #[true, true, false, false, false, false, false, false, false, false, false, false, false, false, false, false, false, false, false, false, false, false] rfl rfl (by kernel_rfl) (fun _ _ _ h => h) (Or.inl ⟨by rfl, ?_⟩) ?_ ?_
    rotate_left
    · intro w'
      go_simp
      with_reducible rfl
    rotate_left
    · (simp only [Act.put, List.setIfInBounds_toArray, i64_w, i32_w]; dsimp only [List.set_cons_zero, List.set_cons_succ])
      rfl
    refine pure_ (i := 2) (N := some 30) (v := ?_) (a' := ?_) #[true, true, true, false, false, false, false, false, false, false, false, false, false, false, false, false, false, false, false, false, false, false] rfl rfl (by kernel_rfl) (fun _ _ _ h => h) (Or.inl ⟨by rfl, ?_⟩) ?_ ?_
    rotate_left
    · intro w'
      go_simp
      with_reducible rfl
    rotate_left
    · (simp only [Act.put, List.setIfInBounds_toArray, i64_w, i32_w]; dsimp only [List.set_cons_zero, List.set_cons_succ])
      rfl
    refine pure_ (i := 4) (N := some 32) (v := ?_) (a' := ?_) #[true, true, true, false, true, false, false, false, false, false, false, false, false, false, false, false, false, false, false, false, false, false] rfl rfl (by kernel_rfl) (fun _ _ _ h => h) (Or.inl ⟨by rfl, ?_⟩) ?_ ?_
    rotate_left
    · intro w'
      go_simp
      with_reducible rfl
    rotate_left
    · (simp only [Act.put, List.setIfInBounds_toArray, i64_w, i32_w]; dsimp only [List.set_cons_zero, List.set_cons_succ])
      rfl
    refine pure_ (i := 5) (N := some 33) (v := ?_) (a' := ?_) #[true, true, true, false, true, true, false, false, false, false, false, false, false, false, false, false, false, false, false, false, false, false] rfl rfl (by kernel_rfl) (fun _ _ _ h => h) (Or.inl ⟨by rfl, ?_⟩) ?_ ?_
    rotate_left
    · intro w'
      go_simp
      with_reducible rfl
    rotate_left
    · (simp only [Act.put, List.setIfInBounds_toArray, i64_w, i32_w]; dsimp only [List.set_cons_zero, List.set_cons_succ])
      rfl
    refine pure_ (i := 6) (N := some 34) (v := ?_) (a' := ?_) #[true, true, true, false, true, true, true, false, false, false, false, false, false, false, false, false, false, false, false, false, false, false] rfl rfl (by kernel_rfl) (fun _ _ _ h => h) (Or.inl ⟨by rfl, ?_⟩) ?_ ?_
    rotate_left
    · intro w'
      go_simp
      with_reducible rfl
    rotate_left
    · (simp only [Act.put, List.setIfInBounds_toArray, i64_w, i32_w]; dsimp only [List.set_cons_zero, List.set_cons_succ])
      rfl
    refine pure_ (i := 7) (N := some 35) (v := ?_) (a' := ?_) #[true, true, true, false, true, true, true, true, false, false, false, false, false, false, false, false, false, false, false, false, false, false] rfl rfl (by kernel_rfl) (fun _ _ _ h => h) (Or.inl ⟨by rfl, ?_⟩) ?_ ?_
    rotate_left
    · intro w'
      go_simp
      with_reducible rfl
    rotate_left
    · (simp only [Act.put, List.setIfInBounds_toArray, i64_w, i32_w]; dsimp only [List.set_cons_zero, List.set_cons_succ])
      rfl
    refine pure_ (i := 8) (N := some 36) (v := ?_) (a' := ?_) #[true, true, true, false, true, true, true, true, true, false, false, false, false, false, false, false, false, false, false, false, false, false] rfl rfl (by kernel_rfl) (fun _ _ _ h => h) (Or.inl ⟨by rfl, ?_⟩) ?_ ?_
    rotate_left
    · intro w'
      go_simp
      with_reducible rfl
    rotate_left
    · (simp only [Act.put, List.setIfInBounds_toArray, i64_w, i32_w]; dsimp only [List.set_cons_zero, List.set_cons_succ])
      rfl
    refine pure_ (i := 10) (N := some 38) (v := ?_) (a' := ?_) #[true, true, true, false, true, true, true, true, true, false, true, false, false, false, false, false, false, false, false, false, false, false] rfl rfl (by kernel_rfl) (fun _ _ _ h => h) (Or.inl ⟨by rfl, ?_⟩) ?_ ?_
    rotate_left
    · intro w'
      go_simp
      with_reducible rfl
    rotate_left
    · (simp only [Act.put, List.setIfInBounds_toArray, i64_w, i32_w]; dsimp only [List.set_cons_zero, List.set_cons_succ])
      rfl
    refine pure_ (i := 11) (N := some 39) (v := ?_) (a' := ?_) #[true, true, true, false, true, true, true, true, true, false, true, true, false, false, false, false, false, false, false, false, false, false] rfl rfl (by kernel_rfl) (fun _ _ _ h => h) (Or.inl ⟨by rfl, ?_⟩) ?_ ?_
    rotate_left
    · intro w'
      go_simp
      with_reducible rfl
    rotate_left
    · (simp only [Act.put, List.setIfInBounds_toArray, i64_w, i32_w]; dsimp only [List.set_cons_zero, List.set_cons_succ])
      rfl
    refine pure_ (i := 15) (N := some 43) (v := ?_) (a' := ?_) #[true, true, true, false, true, true, true, true, true, false, true, true, false, false, false, true, false, false, false, false, false, false] rfl rfl (by kernel_rfl) (fun _ _ _ h => h) (Or.inl ⟨by rfl, ?_⟩) ?_ ?_
    rotate_left
    · intro w'
      go_simp
      with_reducible rfl
    rotate_left
    · (simp only [Act.put, List.setIfInBounds_toArray, i64_w, i32_w]; dsimp only [List.set_cons_zero, List.set_cons_succ])
      rfl
    refine pure_ (i := 16) (N := some 44) (v := ?_) (a' := ?_) #[true, true, true, false, true, true, true, true, true, false, true, true, false, false, false, true, true, false, false, false, false, false] rfl rfl (by kernel_rfl) (fun _ _ _ h => h) (Or.inl ⟨by rfl, ?_⟩) ?_ ?_
    rotate_left
    · intro w'
      go_simp
      with_reducible rfl
    rotate_left
    · (simp only [Act.put, List.setIfInBounds_toArray, i64_w, i32_w]; dsimp only [List.set_cons_zero, List.set_cons_succ])
      rfl
    refine pure_ (i := 17) (N := some 45) (v := ?_) (a' := ?_) #[true, true, true, false, true, true, true, true, true, false, true, true, false, false, false, true, true, true, false, false, false, false] rfl rfl (by kernel_rfl) (fun _ _ _ h => h) (Or.inl ⟨by rfl, ?_⟩) ?_ ?_
    rotate_left
    · intro w'
      go_simp
      with_reducible rfl
    rotate_left
    · (simp only [Act.put, List.setIfInBounds_toArray, i64_w, i32_w]; dsimp only [List.set_cons_zero, List.set_cons_succ])
      rfl
    refine take_ (i := 3) (N := some 31) (v := ?_) (a' := ?_) #[true, true, true, true, true, true, true, true, true, false, true, true, false, false, false, true, true, true, false, false, false, false] rfl rfl (by kernel_rfl) (fun _ _ _ h => h) (Or.inl ⟨by rfl, ?_⟩) hHeld ?_ ?_
    rotate_left
    · rintro w' ⟨s0, s1, s2, s3⟩
      go_simp
      with_reducible rfl
    rotate_left
    · (simp only [Act.put, List.setIfInBounds_toArray, i64_w, i32_w]; dsimp only [List.set_cons_zero, List.set_cons_succ])
      rfl
    refine take_ (i := 9) (N := some 37) (v := ?_) (a' := ?_) #[true, true, true, true, true, true, true, true, true, true, true, true, false, false, false, true, true, true, false, false, false, false] rfl rfl (by kernel_rfl) (fun _ _ _ h => h) (Or.inl ⟨by rfl, ?_⟩) hHeld ?_ ?_
    rotate_left
    · rintro w' ⟨s0, s1, s2, s3⟩
      go_simp
      with_reducible rfl
    rotate_left
    · (simp only [Act.put, List.setIfInBounds_toArray, i64_w, i32_w]; dsimp only [List.set_cons_zero, List.set_cons_succ])
      rfl
    refine pure_ (i := 12) (N := some 40) (v := ?_) (a' := ?_) #[true, true, true, true, true, true, true, true, true, true, true, true, true, false, false, true, true, true, false, false, false, false] rfl rfl (by kernel_rfl) (fun _ _ _ h => h) (Or.inl ⟨by rfl, ?_⟩) ?_ ?_
    rotate_left
    · intro w'
      go_simp
      with_reducible rfl
    rotate_left
    · (simp only [Act.put, List.setIfInBounds_toArray, i64_w, i32_w]; dsimp only [List.set_cons_zero, List.set_cons_succ])
      rfl
    refine pure_ (i := 13) (N := some 41) (v := ?_) (a' := ?_) #[true, true, true, true, true, true, true, true, true, true, true, true, true, true, false, true, true, true, false, false, false, false] rfl rfl (by kernel_rfl) (fun _ _ _ h => h) (Or.inl ⟨by rfl, ?_⟩) ?_ ?_
    rotate_left
    · intro w'
      go_simp
      with_reducible rfl
    rotate_left
    · (simp only [Act.put, List.setIfInBounds_toArray, i64_w, i32_w]; dsimp only [List.set_cons_zero, List.set_cons_succ])
      rfl
    refine take_ (i := 14) (N := some 42) (v := ?_) (a' := ?_) #[true, true, true, true, true, true, true, true, true, true, true, true, true, true, true, true, true, true, false, false, false, false] rfl rfl (by kernel_rfl) (fun _ _ _ h => h) (Or.inl ⟨by rfl, ?_⟩) hHeld ?_ ?_
    rotate_left
    · rintro w' ⟨s0, s1, s2, s3⟩
      go_simp
      with_reducible rfl
    rotate_left
    · (simp only [Act.put, List.setIfInBounds_toArray, i64_w, i32_w]; dsimp only [List.set_cons_zero, List.set_cons_succ])
      rfl
    refine one_ (i := 18) (N := some 46) #[true, true, true, true, true, true, true, true, true, true, true, true, true, true, true, true, true, true, true, false, false, false] rfl rfl (by kernel_rfl) (by decide) (fun K hK => ?_)
    refine goes_ Try.func53 (by kernel_rfl) rfl #[.slice (some ⟨mg, 0, none⟩) l t.mc, .int .i64 k, .int .i64 (wrap64 ((k : Int) + 1))] (by rfl) rfl rfl (by simp only [List.map_toArray, List.map_cons, List.map_nil]; rfl) ?_
    with_reducible refine (HDEL.out).mono ?_
    rintro e w7 ⟨rfl, hr7, x7⟩
    refine ⟨_, rfl, ?_⟩
    have e7 : Ext t.row.ownBlock.toList w2 w7 := (((Ext.refl _ _).drew).trans x7 (fun y hy => .inl (by rw [HOWN.out]; simpa using hy)))
    have hfz := (KK.out _ e7).2.2
    refine hK.out _ _ ⟨(KK.out _ e7).1, (KK.out _ e7).2.1, b1, b2⟩ (fun hHeld => ?_)
    clear hK K
    refine norm_ (a' := ?_) ?_ ?_
    rotate_left
    · show Act.put _ (some 46) _ = _
      (simp only [Act.put, List.setIfInBounds_toArray, i64_w, i32_w]; dsimp only [List.set_cons_zero, List.set_cons_succ])
      rfl
    refine pure_ (i := 19) (N := some 47) (v := ?_) (a' := ?_) #[true, true, true, true, true, true, true, true, true, true, true, true, true, true, true, true, true, true, true, true, false, false] rfl rfl (by kernel_rfl) (fun _ _ _ h => h) (Or.inl ⟨by rfl, ?_⟩) ?_ ?_
    rotate_left
    · intro w'
      go_simp
      with_reducible rfl
    rotate_left
    · (simp only [Act.put, List.setIfInBounds_toArray, i64_w, i32_w]; dsimp only [List.set_cons_zero, List.set_cons_succ])
      rfl
    refine pure_ (i := 20) (N := some 48) (v := ?_) (a' := ?_) #[true, true, true, true, true, true, true, true, true, true, true, true, true, true, true, true, true, true, true, true, true, false] rfl rfl (by kernel_rfl) (fun _ _ _ h => h) (Or.inl ⟨by rfl, ?_⟩) ?_ ?_
    rotate_left
    · intro w'
      go_simp
      with_reducible rfl
    rotate_left
    · (simp only [Act.put, List.setIfInBounds_toArray, i64_w, i32_w]; dsimp only [List.set_cons_zero, List.set_cons_succ])
      rfl
    refine last_ (i := 21) (N := none) #[true, true, true, true, true, true, true, true, true, true, true, true, true, true, true, true, true, true, true, true, true, true] rfl rfl (by kernel_rfl) (by decide) (fun K hK => ?_)
    refine skip_ (w1 := ?_) (by rfl) rfl ?_ ?_
    rotate_left
    · go_simp
      rfl
    refine hK.out _ _ ?_
    clear hK K
    refine done_ (by kernel_rfl) ?_
    clear f1 f2
    rw [← HLE.out] at hr7
    have hset := HT2.out.set_one (by decide) (by decide) (s' := ⟨some ⟨mg, 0, none⟩, t.mc, t.ids.eraseIdx k, t.torn⟩) (W := w7.setCell ⟨q, i * 2, none⟩ (.slice (some ⟨mg, 0, none⟩) (t.ids.eraseIdx k).length t.mc)) H1.out e7 hr7 (fun y hy => .inl (by rw [HOWN.out]; simpa [Gr.row, Value.ownBlock] using hy)) ((Ext.refl [q] _).setCell (Or.inl (by simp)) _) (fun hs hr => hr.put1 encG_ok.len (j := 0) (by omega) hs _ _ rfl)
    rw [HLE.out] at hset
    obtain ⟨hT8, hE8, hO8⟩ := hset
    have HT8 := Lib.hid hT8; have HE8 := Lib.hid hE8; have HO8 := Lib.hid hO8
    clear hr7 x7 e7 hfz hT8 hE8 hO8 hcv2 c2
    go_wp2_with fail
    refine bodyPost_ret (v := .tuple #[.int .i64 ((i : Int) + 1), .bool true]) (by simp [results, Try.results35, go_sem]) rfl ?_
    have hSS : ∀ y, y ∈ (b :: [q]) ++ gOwn L → y ∈ S := fun y hy => by rw [HS.out]; exact hy
    rw [HM.out]
    refine ⟨rfl, _, ⟨_, _, HT8.out, rfl, by rw [absG_set, HK.out]; rfl⟩, (X2.out.mono (by simp)).trans HE8.out (fun y hy => .inl (hSS y hy)), ?_⟩
    intro y hy
    rcases List.mem_append.1 hy with hy | hy
    · exact .inl (hSS y (List.mem_append_left _ hy))
    · exact (HO8.out y hy).imp (fun h => hSS y (List.mem_append_right _ h)) (fun h => Nat.le_trans X2.out.size h)

/-- What a tearing down tells, and what is there then. -/
def tearG (M : List Gk) (g : Int) : (List Int × Int) × List Gk :=
  if hasM M g = false then (([], 11), M) else match M[(g - 1).toNat]? with
  | none => (([], 11), M)
  | some s => if s.torn then (([], 13), M) else ((s.ids, 0), M.set (g - 1).toNat ⟨[], true⟩)
def TearP (b : Nat) (S : List Nat) (M : List Gk) (g : Int) (w : World) (e : Ending) (w' : World) : Prop :=
  ∃ (a : Option Addr) (c : Nat), e = .returned (.tuple #[.slice a (tearG M g).1.1.length c, .int .i64 (tearG M g).1.2]) ∧ RI w' (.slice a (tearG M g).1.1.length c) (tearG M g).1.1 ∧ (∀ y, (Value.slice a (tearG M g).1.1.length c).ownBlock = some y → y ∈ S) ∧ Chg (fun w' S' => GS w' b S' (tearG M g).2 ∧ Hid (∀ y, (Value.slice a (tearG M g).1.1.length c).ownBlock = some y → y ∉ S')) S w w'
theorem info_gr : (Try.prog.info? 78).map (·.size) = some 2 := by
  have h : Try.prog.info? 78 = some Try.t78 := by kernel_rfl
  rw [h]; rfl

set_option maxHeartbeats 6400000 in
set_option maxRecDepth 100000 in
theorem gs_tear (b : Nat) (S : List Nat) (M : List Gk) (g : Int) (hx : M.length < 10000) (w : World) (h : GS w b S M) :
    Calls Try.prog 28 #[.pointer (some ⟨b, 0, none⟩), .int .i64 g] w (TearP b S M g w) := by
  unfold TearP
  have hhs := gs_has b S M g w h
  cases hh : hasM M g with
  | false =>
    have hj : tearG M g = (([], 11), M) := by unfold tearG; rw [if_pos hh]
    rw [hh] at hhs
    have HHS := Lib.hid hhs; have HJ := Lib.hid hj; have HH := Lib.hid h
    clear hhs hj h hh hx
    go_enter Try.func28, Try.ntmps28
    go_wp2_with fail
    refine HHS.out.mono ?_
    rintro e w1 ⟨rfl, rfl⟩
    go_wp2_with fail
    refine bodyPost_ret (v := .tuple #[.slice none 0 0, .int .i64 11]) (by simp [results, Try.results28, go_sem]) rfl ?_
    rw [HJ.out]
    exact ⟨none, 0, rfl, Rw.nil _, fun y hy => by simp [Value.ownBlock] at hy, S, ⟨HH.out, fun y hy => by simp [Value.ownBlock] at hy⟩, Ext.refl _ _, fun x hx => .inl hx⟩
  | true =>
    obtain ⟨i, s, rfl, hs⟩ := has_at hh
    rw [hh] at hhs
    have hjf : tearG M ((i : Int) + 1) = if s.torn then (([], 13), M) else ((s.ids, 0), M.set i ⟨[], true⟩) := by
      unfold tearG
      rw [if_neg (by rw [hh]; decide), show ((i : Int) + 1 - 1).toNat = i by omega, hs]
    have hh0 := h
    obtain ⟨v, L, h, hS, rfl⟩ := h
    obtain ⟨t, ht, rfl⟩ := abs_at hs
    obtain ⟨a, cap, rfl⟩ := h.ob.row.val
    obtain ⟨n, hn⟩ : ∃ n, n = L.length := ⟨_, rfl⟩
    have hin : i < n := by rw [hn]; exact (List.getElem?_eq_some_iff.1 ht).1
    rw [absG_len, ← hn] at hx
    rw [← hn] at h hS
    obtain ⟨q, rfl, hq⟩ := h.ob.row.addr (by omega)
    have hcv : w.cell? ⟨b, 0, none⟩ = some (.slice (some ⟨q, 0, none⟩) n cap) := h.ob.blk.cell 0
    have c0 := h.ob.row.cell encG_ok.len ht 0 (by omega)
    have c1 := h.ob.row.cell encG_ok.len ht 1 (by omega)
    simp only [encG, Gr.row, Nat.add_zero, List.getElem?_cons_zero, List.getElem?_cons_succ] at c0 c1
    obtain ⟨l, hl⟩ : ∃ l, l = t.ids.length := ⟨_, rfl⟩
    rw [← hl] at c0
    have b1 : (0 : Int) ≤ (i : Int) := by omega
    have b2 : (i : Int) < (n : Int) := by omega
    have hi6 : i < 1000000 := by omega
    have HHS := Lib.hid hhs; have HT := Lib.hid h; have HS := Lib.hid hS; have H1 := Lib.hid ht; have HL := Lib.hid hl; have HH := Lib.hid hh0
    clear hhs h hS hh hs ht hn hl hh0
    cases htt : t.torn with
    | true =>
      rw [htt] at c1
      rw [if_pos (show t.abs.torn = true from htt)] at hjf
      have HJ := Lib.hid hjf
      clear hjf htt
      have f1 := ws1 hi6
      go_enter Try.func28, Try.ntmps28
      go_wp2_with fail
      refine HHS.out.mono ?_
      rintro e w1 ⟨rfl, rfl⟩
      go_wp2_with fail
      refine bodyPost_ret (v := .tuple #[.slice none 0 0, .int .i64 13]) (by simp [results, Try.results28, go_sem]) rfl ?_
      rw [HJ.out]
      exact ⟨none, 0, rfl, Rw.nil _, fun y hy => by simp [Value.ownBlock] at hy, S, ⟨HH.out, fun y hy => by simp [Value.ownBlock] at hy⟩, Ext.refl _ _, fun x hx => .inl hx⟩
    | false =>
      rw [htt] at c1
      rw [if_neg (show ¬ t.abs.torn = true by rw [show t.abs.torn = t.torn from rfl, htt]; decide)] at hjf
      have hth : w.there q (i * 2) 2 := HT.out.ob.row.there encG_ok.len (i := i) (List.getElem?_eq_some_iff.1 H1.out).1
      have hone : (#[Value.slice none 0 0, .bool true].all (·.oneCell')) = true := by simp [Value.oneCell']
      have hset := HT.out.set_one (by decide) (by decide) (s' := offG) (W := w.setCells q (i * 2) [.slice none 0 0, .bool true]) H1.out (Ext.refl _ _) (Rw.nil _) (fun y hy => by simp [offG, Gr.row, Value.ownBlock] at hy) (Ext.setCells (Or.inl (by simp)) _ _ _ (Ext.refl _ _)) (fun hs hr => hr.put encG_ok.len (List.getElem?_eq_some_iff.1 hs).1 offG)
      have hri := HT.out.inn t (List.mem_of_getElem? H1.out)
      have hsm := List.mem_of_getElem? H1.out
      have hap := HT.out.apart (by decide) (by decide)
      have hri2 := hri.keep (Ext.setCells (g := q) (S := [q]) (Or.inl (by simp)) [.slice none 0 0, .bool true] (i * 2) _ (Ext.refl _ w)) (fun y hy hm => hap y (mem_gOwn hsm hy) (by simp at hm; simp [hm, Value.ownBlock]))
      have HJ := Lib.hid hjf; have HSET := Lib.hid hset; have HRI2 := Lib.hid hri2; have HAP := Lib.hid hap
      clear hjf htt hset hri hsm hap hri2
      have f1 := ws1 hi6
      go_enter Try.func28, Try.ntmps28
      go_wp2_with fail
      refine HHS.out.mono ?_
      rintro e w1 ⟨rfl, rfl⟩
      go_wp2_with (refine wpList_store_mid ?_ ?_ 78 (.tmp 41) (.tmp 40) ?_ q (i * 2) #[.slice none 0 0, .bool true] ?_ ?_ hth info_gr hone ?_; exact rfl; exact rfl; exact rfl; exact rfl; exact rfl; generalize hW5 : World.setCells w q (i * 2) _ = w5)
      have hW6 : World.setCells w q (i * 2) [.slice none 0 0, .bool true] = w5 := hW5
      rw [hW6] at HSET HRI2
      clear hW5 hW6 hth hone f1
      go_wp2_with fail
      refine bodyPost_ret (v := .tuple #[.slice t.ma l t.mc, .int .i64 0]) (by simp [results, Try.results28, go_sem]) rfl ?_
      have hSS : ∀ y, y ∈ (b :: [q]) ++ gOwn L → y ∈ S := fun y hy => by rw [HS.out]; exact hy
      rw [HJ.out]
      obtain ⟨hT8, hE8, hO8⟩ := HSET.out
      have hoff : ∀ y, t.row.ownBlock = some y → y ∉ (b :: (Value.slice (some ⟨q, 0, none⟩) n cap).ownBlock.toList) ++ gOwn (L.set i offG) := fun y hy hm => by
        rcases List.mem_append.1 hm with hm | hm
        · exact HAP.out y (mem_gOwn (List.mem_of_getElem? H1.out) hy) hm
        · obtain ⟨s8, hs8, hy8⟩ := List.mem_flatMap.1 hm
          have hy8 : s8.row.ownBlock = some y := by simpa using hy8
          obtain ⟨j, hj⟩ := List.mem_iff_getElem?.1 hs8
          rw [List.getElem?_set] at hj
          by_cases hij : i = j
          · rw [if_pos hij, if_pos (List.getElem?_eq_some_iff.1 H1.out).1] at hj
            injection hj with hj
            rw [← hj] at hy8
            simp [offG, Gr.row, Value.ownBlock] at hy8
          · rw [if_neg hij] at hj
            exact dis_g HT.out.dis H1.out hj hij hy hy8
      refine ⟨t.ma, t.mc, by rw [HL.out]; rfl, HRI2.out, fun y hy => hSS y (List.mem_append_right _ (mem_gOwn (List.mem_of_getElem? H1.out) hy)), _, ⟨⟨_, _, hT8, rfl, by rw [absG_set]; rfl⟩, hoff⟩, hE8.mono (fun y hy => .inl (hSS y hy)), ?_⟩
      intro y hy
      rcases List.mem_append.1 hy with hy | hy
      · exact .inl (hSS y (List.mem_append_left _ hy))
      · exact (hO8 y hy).imp_left (fun h => hSS y (List.mem_append_right _ h))
end Go.Proofs.Ytlagogjnoibkcaa
