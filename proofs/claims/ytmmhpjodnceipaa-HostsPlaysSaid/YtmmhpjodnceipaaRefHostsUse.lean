/- The document's hosts: Use, by contract. -/
import Derived.Test.YtmmhpjodnceipaaRefHosts
import Derived.Deep.CutBlock
namespace Go.Proofs.Ytmmhpjodnceipaa
open Go.RowKit Go.Proofs.YtmmhpjodnceipaaW.PrintLast
set_option linter.unusedVariables false
set_option linter.unusedSimpArgs false

def RUseP (most : Int) (b : Nat) (v : Value) (xs : List Hs) (key : ByteArray) (w : World) (e : Ending) (w' : World) : Prop :=
  e = .returned (.tuple #[.string (useM most xs key).1, .int .i64 (useM most xs key).2.1]) ∧ ∃ v', Rh most w' b v' (useM most xs key).2.2 ∧ Ext (b :: v.ownBlock.toList) w w' ∧ (∀ x ∈ b :: v'.ownBlock.toList, x ∈ b :: v.ownBlock.toList ∨ w.heap.size ≤ x)

def RMid (most : Int) (b : Nat) (v : Value) (xs : List Hs) (key : ByteArray) (w wx : World) (gone : ByteArray) : Prop :=
  ∃ (v' : Value) (ys : List Hs), Rh most wx b v' ys ∧ ys.length ≤ xs.length ∧ Ext (b :: v.ownBlock.toList) w wx ∧ (∀ x ∈ b :: v'.ownBlock.toList, x ∈ b :: v.ownBlock.toList ∨ w.heap.size ≤ x) ∧ useM most xs key = (gone, 0, ys ++ [⟨key, 1⟩])

set_option maxHeartbeats 6400000 in
set_option maxRecDepth 100000 in
theorem ruse_any (most : Int) (b : Nat) (v : Value) (xs : List Hs) (key : ByteArray) (hx : xs.length < 100000) (w : World) (h : Rh most w b v xs) (hok : HsOk xs) :
    Calls Try.prog 34 #[.pointer (some ⟨b, 0, none⟩), .string key] w (RUseP most b v xs key w) := by
  have hlt := h.blk.lt
  have cat := rat_any most b v xs key (by omega) w h
  obtain ⟨a, cap, rfl⟩ := h.row.val
  obtain ⟨n, hn⟩ : ∃ n, n = xs.length := ⟨_, rfl⟩
  rw [← hn] at h ⊢
  have hcv : w.cell? ⟨b, 1, none⟩ = some (.slice a n cap) := h.blk.cell 1
  have hcm : w.cell? ⟨b, 0, none⟩ = some (.int .i64 most) := h.blk.cell 0
  have hrl := h.row.lt
  have HN := Lib.hid hn; have HH := Lib.hid h; have HOK := Lib.hid hok
  have hn1 : n < 100000 := by omega
  have hbn : (Value.slice a n cap).ownBlock ≠ some b := h.ne
  have HBN := Lib.hid hbn
  clear hx hn h hok hbn
  rcases idxI_spec (hasKey key) xs with ⟨h1, h2⟩ | ⟨i, x, h1, h2, h4, h3⟩
  · rw [h1] at cat
    have CAT := Lib.hid cat; have H2 := Lib.hid h2
    clear cat h1 h2
    go_enter Try.func34, Try.ntmps34
    go_wp2_with fail
    refine CAT.out.mono ?_
    rintro e w1 ⟨rfl, rfl⟩
    go_wp2_with fail
    go_quiet (fail)
    have hcv : (w.drewN nq).cell? ⟨b, 1, none⟩ = some (.slice a n cap) := hcv
    have hH1 : Rh most (w.drewN nq) b (.slice a n cap) xs := HH.out.keep ((Ext.refl [] w).drewN nq) (by simp)
    have e1 : Ext [] w (w.drewN nq) := (Ext.refl _ _).drewN _
    have HH1 := Lib.hid hH1
    clear hH1
    generalize w.drewN nq = w1 at hcv HH1 e1 ⊢
    go_upto_if 57 with fail
    go_cut [8] (fun s8 wx => ∃ gone : ByteArray, s8 = .string gone ∧ RMid most b (.slice a n cap) xs key w wx gone)
    case first =>
      by_cases hm : most ≤ (n : Int)
      · have d1 : decide (most ≤ (n : Int)) = true := decide_eq_true hm
        rcases idxI_spec isFree xs with ⟨k1, k2⟩ | ⟨i, x, k1, k2, k4, k3⟩
        · have hU := useM_full (key := key) H2.out (by rw [← HN.out]; exact hm) k2
          have HU := Lib.hid hU; have K2 := Lib.hid k2
          clear k1 k2 hU
          go_wp2_with fail
          go_loop [9] (fun iv => ∃ (k : Nat), k ≤ n ∧ iv = .int .i64 k) (fun iv => n - (intOf iv).toNat)
          case atStart => exact ⟨0, Nat.zero_le _, rfl⟩
          case round =>
            obtain ⟨k, hkn, rfl⟩ := hrel
            by_cases hlk : k < n
            · obtain ⟨x, hxk⟩ : ∃ x, xs[k]? = some x := ⟨_, List.getElem?_eq_getElem (by rw [← HN.out]; exact hlk)⟩
              have d2 : decide (k < n) = true := decide_eq_true hlk
              obtain ⟨gb, rfl, hgl⟩ := HH1.out.row.addr (by omega)
              have hx1 := HH1.out.row.cell encH_ok.len hxk 1 (by omega)
              simp only [encH, Nat.add_zero, List.getElem?_cons_zero, List.getElem?_cons_succ] at hx1
              have b1 : (0 : Int) ≤ (k : Int) := by omega
              have b2 : (k : Int) < (n : Int) := by omega
              have hu := HOK.out x (List.mem_of_getElem? hxk)
              have hf := K2.out x (List.mem_of_getElem? hxk)
              simp only [isFree, beq_eq_false_iff_ne] at hf
              have b3 : 0 < x.uses := by omega
              clear hxk hu hf
              go_wp2_with fail
              exact ⟨⟨k + 1, by omega, rfl⟩, by simp [intOf]; omega⟩
            · have d2 : decide (k < n) = false := decide_eq_false hlk
              have hkn' : k = n := by omega
              have d3 : ((k : Int) == (n : Int)) = true := by simp; omega
              subst hkn'
              go_wp2_with fail
              refine bodyPost_ret (v := .tuple #[.string ⟨#[]⟩, .int .i64 10]) (by simp [results, Try.results34, go_sem]) rfl ?_
              exact ⟨by rw [HU.out], _, by rw [HU.out]; exact HH1.out, e1.mono (by simp), fun x hx => .inl hx⟩
        · have hU := useM_gone (key := key) H2.out (by rw [← HN.out]; exact hm) k1 k2 k4
          have HU := Lib.hid hU; have K1 := Lib.hid k1; have K2 := Lib.hid k2; have K4 := Lib.hid k4
          have hil : i < n := by rw [HN.out]; exact (List.getElem?_eq_some_iff.1 k1).1
          obtain ⟨g, rfl, hgl⟩ := HH1.out.row.addr (by omega)
          clear k1 k2 k4 k3 hU
          go_wp2_with fail
          go_loop [9] (fun iv => ∃ (k : Nat), k ≤ i ∧ iv = .int .i64 k) (fun iv => n - (intOf iv).toNat)
          case atStart => exact ⟨0, Nat.zero_le _, rfl⟩
          case round =>
            obtain ⟨k, hkn, rfl⟩ := hrel
            have hlk : k < n := by omega
            obtain ⟨y, hyk⟩ : ∃ y, xs[k]? = some y := ⟨_, List.getElem?_eq_getElem (by rw [← HN.out]; exact hlk)⟩
            have d2 : decide (k < n) = true := decide_eq_true hlk
            have hx0 := HH1.out.row.cell encH_ok.len hyk 0 (by omega)
            have hx1 := HH1.out.row.cell encH_ok.len hyk 1 (by omega)
            simp only [encH, Nat.add_zero, List.getElem?_cons_zero, List.getElem?_cons_succ] at hx0 hx1
            have b1 : (0 : Int) ≤ (k : Int) := by omega
            have b2 : (k : Int) < (n : Int) := by omega
            have hu := HOK.out y (List.mem_of_getElem? hyk)
            by_cases hki : k < i
            · have hf := K4.out k y hki hyk
              simp only [isFree, beq_eq_false_iff_ne] at hf
              have b3 : 0 < y.uses := by omega
              clear hyk hu hf hx0
              go_wp2_with fail
              exact ⟨⟨k + 1, by omega, rfl⟩, by simp [intOf]; omega⟩
            · have hke : k = i := by omega
              have hyx : y = x := by rw [hke, K1.out] at hyk; injection hyk with h; exact h.symm
              have hf := K2.out
              rw [← hyx] at hf
              simp only [isFree, beq_iff_eq] at hf
              have b3 : y.uses ≤ 0 := by omega
              have d3 : ((k : Int) == (n : Int)) = false := by simp; omega
              have hil2 : k < xs.length := by rw [← HN.out]; exact hlk
              have hout := rout_any most b g n cap k xs hlk hn1 w1 HH1.out
              have HOUT := Lib.hid hout; have HYX := Lib.hid hyx; have HKE := Lib.hid hke
              clear hyk hu hf hke hyx hout hki hkn
              go_wp2_with fail
              refine HOUT.out.mono ?_
              rintro e w2 ⟨rfl, S2, ⟨v2, h2, hS2⟩, e2, k2⟩
              go_wp2_with fail
              go_meet
              have hs1 := e1.size
              refine ⟨y.key, rfl, v2, _, h2, by rw [List.length_eraseIdx_of_lt hil2]; omega, (e1.mono (by simp)).trans (T := [b, g]) (e2.mono (by simp)) (fun x hx => .inl (by simpa [Value.ownBlock] using hx)), ?_, by rw [HKE.out, HYX.out]; exact HU.out⟩
              intro x hx
              rw [hS2] at k2
              rcases k2 x hx with h | h
              · exact .inl (by simpa [Value.ownBlock] using h)
              · exact .inr (by omega)
      · have d1 : decide (most ≤ (n : Int)) = false := decide_eq_false hm
        have hU := useM_room (key := key) H2.out (show (xs.length : Int) < most by rw [← HN.out]; omega)
        have HU := Lib.hid hU
        clear hU
        go_wp2_with fail
        go_meet
        exact ⟨⟨#[]⟩, rfl, _, xs, HH1.out, Nat.le_refl _, e1.mono (by simp), fun x hx => .inl hx, HU.out⟩
    case rest =>
      obtain ⟨gone, rfl, v', ys, hT, hyl, hE, hO, hU⟩ := hcut
      have hyn : ys.length ≤ n := by rw [HN.out]; exact hyl
      obtain ⟨a3, c3, rfl⟩ := hT.row.val
      obtain ⟨m, hm⟩ : ∃ m, m = ys.length := ⟨_, rfl⟩
      rw [← hm] at hT hO
      have hmn : m ≤ n := by omega
      have h63 : m + 1 ≤ 1000000 := by omega
      have hlen : LenIs ys [(⟨key, 1⟩ : Hs)] (m + 1) := by unfold LenIs; rw [← hm]; rfl
      have hsl := Sl.new (enc := encH) wc ⟨key, 1⟩ 97
      have hrw := hT.row.alloc (.cells (encH ⟨key, 1⟩).toArray 97 (0, 0))
      have hcv3 : wc.cell? ⟨b, 1, none⟩ = some (.slice a3 m c3) := hT.blk.cell 1
      have hltc := hT.blk.lt
      have HU := Lib.hid hU; have HT := Lib.hid hT; have HM := Lib.hid hm; have HO := Lib.hid hO
      clear hU hT hm hO hcv
      go_wp2_with (at_builtin; refine wpList_appN tyRh encH_ok (by rfl) _ _ (by rfl) hrw (by rfl) hsl (by rfl) hlen h63 ?_)
      intro a5 c5 w5 hr5 hS5 hg5
      have hb5 := HT.out.blk_of ((Ext.refl [] _).alloc _) hS5
      have hcv5 : w5.cell? ⟨b, 1, none⟩ = some (.slice a3 m c3) := hb5.cell 1
      have hfv5 : w5.frozen? ⟨b, 1, none⟩ = false := hb5.free 1
      have hfin := HT.out.appended ((Ext.refl [] _).alloc _) hr5 hS5 (fun g hg => (hg5 g hg).imp_right (fun h => by omega)) 1 (by simp)
      have HF := Lib.hid hfin
      clear hfin hb5 hr5 hS5 hg5 hsl hrw hlen
      go_wp2_with fail
      refine bodyPost_ret (v := .tuple #[.string gone, .int .i64 0]) (by simp [results, Try.results34, go_sem]) rfl ?_
      have hs6 := hE.size
      refine ⟨by rw [HU.out], _, by rw [HU.out]; exact HF.out.1, hE.trans HF.out.2.1 HO.out, ?_⟩
      intro x hx
      rcases HF.out.2.2 x hx with h1 | h1
      · exact HO.out x h1
      · exact .inr (by omega)
  · obtain ⟨u0, u6⟩ := HOK.out x (List.mem_of_getElem? h1)
    have hil : i < n := by rw [HN.out]; exact (List.getElem?_eq_some_iff.1 h1).1
    obtain ⟨g, rfl, hgl⟩ := HH.out.row.addr (by omega)
    have b1 : (0 : Int) ≤ (i : Int) := by omega
    have b2 : (i : Int) < (n : Int) := by omega
    have hx1 := HH.out.row.cell encH_ok.len h1 1 (by omega)
    simp only [encH, Nat.add_zero, List.getElem?_cons_zero, List.getElem?_cons_succ] at hx1
    rw [h3] at cat
    have CAT := Lib.hid cat
    by_cases hu : 6 ≤ x.uses
    · have hU := useM_busy (most := most) h1 h2 h4 hu
      have HU := Lib.hid hU
      clear h1 h2 h4 h3 hU cat
      go_enter Try.func34, Try.ntmps34
      go_wp2_with fail
      refine CAT.out.mono ?_
      rintro e w1 ⟨rfl, rfl⟩
      go_wp2_with fail
      refine bodyPost_ret (v := .tuple #[.string ⟨#[]⟩, .int .i64 10]) (by simp [results, Try.results34, go_sem]) rfl ?_
      exact ⟨by rw [HU.out], _, by rw [HU.out]; exact HH.out, Ext.refl _ _, fun x hx => .inl hx⟩
    · have hU := useM_again (most := most) h1 h2 h4 (by omega)
      have HU := Lib.hid hU
      have u5 : x.uses < 6 := by omega
      clear h1 h2 h4 h3 hU cat hu
      go_enter Try.func34, Try.ntmps34
      go_wp2_with fail
      refine CAT.out.mono ?_
      rintro e w1 ⟨rfl, rfl⟩
      go_wp2_with fail
      have hB1 := Blk.new w #[.string key, .int .i64 (x.uses + 1)] 97
      have e1 : Ext [] w (w.alloc (Obj.cells #[.string key, .int .i64 (x.uses + 1)] 97)) := (Ext.refl _ _).alloc _
      have hHb : w.heap.size ≠ b := by omega
      generalize w.alloc (Obj.cells #[.string key, .int .i64 (x.uses + 1)] 97) = w1 at hB1 e1 ⊢
      generalize hHH : w.heap.size = H at hB1 hHb ⊢
      have hH : w.heap.size ≤ H := by omega
      have hgH : g < H := by have := hrl g rfl; omega
      have hbH : b < H := by omega
      clear hHH
      have hout := rout_any most b g n cap i xs hil hn1 w1 (HH.out.keep e1 (by simp))
      refine hout.mono ?_
      rintro e w2 ⟨rfl, S2, ⟨v2, h2, hS2⟩, e2, k2⟩
      have hB2 := hB1.keep e2 (by simp; omega)
      obtain ⟨a3, c3, rfl⟩ := h2.row.val
      obtain ⟨m, hm⟩ : ∃ m, m = (xs.eraseIdx i).length := ⟨_, rfl⟩
      rw [← hm] at h2 hS2
      have hmn : m + 1 = n := by rw [hm, List.length_eraseIdx_of_lt (by rw [← HN.out]; exact hil)]; have := HN.out; omega
      have h63 : m + 1 ≤ 1000000 := by omega
      clear hmn
      have hlen : LenIs (xs.eraseIdx i) [(⟨key, x.uses + 1⟩ : Hs)] (m + 1) := by unfold LenIs; rw [← hm]; rfl
      have hh0 : w2.cell? ⟨H, 0, none⟩ = some (.string key) := hB2.cell 0
      have hh1 : w2.cell? ⟨H, 1, none⟩ = some (.int .i64 (x.uses + 1)) := hB2.cell 1
      have hcv2 : w2.cell? ⟨b, 1, none⟩ = some (.slice a3 m c3) := h2.blk.cell 1
      have hsl := Sl.new (enc := encH) w2.drew ⟨key, x.uses + 1⟩ 97
      have hrw := (h2.row.drew).alloc (.cells (encH ⟨key, x.uses + 1⟩).toArray 97 (0, 0))
      have hbb : ∀ o, Blk (w2.drew.alloc o) b #[.int .i64 most, .slice a3 m c3] 95 := fun o => h2.blk.drew.alloc o
      have hbh : ∀ o, Blk (w2.drew.alloc o) H #[.string key, .int .i64 (x.uses + 1)] 97 := fun o => hB2.drew.alloc o
      have hne : (Value.slice a3 m c3).ownBlock ≠ some H := by
        intro hq
        have hmem : H ∈ S2 := by rw [hS2]; simp [hq]
        rcases k2 H hmem with h | h
        · simp at h; omega
        · have := e1.size; have := hB1.lt; omega
      have hS2' : ∀ x ∈ S2, x ∈ b :: (Value.slice (some ⟨g, 0, none⟩) n cap).ownBlock.toList ∨ w.heap.size ≤ x := fun x hx => (k2 x hx).imp (fun h => by simpa [Value.ownBlock] using h) (fun h => Nat.le_trans e1.size h)
      have hE2 : Ext (b :: (Value.slice (some ⟨g, 0, none⟩) n cap).ownBlock.toList) w w2 := (e1.mono (by simp)).trans (T := [b, g]) (e2.mono (by simp)) (fun x hx => .inl (by simpa [Value.ownBlock] using hx))
      have HT2 := Lib.hid h2; have HSL := Lib.hid hsl; have HRW := Lib.hid hrw; have HBB := Lib.hid hbb; have HBH := Lib.hid hbh; have HSS := Lib.hid hS2; have HS2' := Lib.hid hS2'; have HNE := Lib.hid hne
      have hlt2 := h2.blk.lt
      have hltH := hB2.lt
      have hs2 := hE2.size
      clear h2 hsl hrw hbb hbh hB2 hB1 e2 k2 hm hS2 hS2' hcv hcm hx1 hout hne CAT
      go_wp2_with fail
      refine start_ (n := 11) (S := fun w' => w'.cell? ⟨b, 1, none⟩ = some (.slice a3 m c3) ∧ w'.cell? ⟨H, 0, none⟩ = some (.string key) ∧ w'.cell? ⟨H, 1, none⟩ = some (.int .i64 (x.uses + 1))) (ds := [10]) #[false, false, false, false, false, false, false, false, false, false, false] (by kernel_rfl) rfl rfl ⟨hcv2, hh0, hh1⟩ (fun hHeld => ?_)
      refine pure_ (i := 0) (N := some 38) (v := ?_) (a' := ?_) #[true, false, false, false, false, false, false, false, false, false, false] rfl rfl (by kernel_rfl) (fun _ _ _ h => h) (Or.inl ⟨by rfl, ?_⟩) ?_ ?_
      rotate_left
      · intro w'
        go_simp
        with_reducible rfl
      rotate_left
      · simp only [Act.put, List.setIfInBounds_toArray, List.set_cons_zero, List.set_cons_succ, i64_w, i32_w]
        rfl
      refine pure_ (i := 1) (N := some 39) (v := ?_) (a' := ?_) #[true, true, false, false, false, false, false, false, false, false, false] rfl rfl (by kernel_rfl) (fun _ _ _ h => h) (Or.inl ⟨by rfl, ?_⟩) ?_ ?_
      rotate_left
      · intro w'
        go_simp
        with_reducible rfl
      rotate_left
      · simp only [Act.put, List.setIfInBounds_toArray, List.set_cons_zero, List.set_cons_succ, i64_w, i32_w]
        rfl
      refine pure_ (i := 2) (N := some 40) (v := ?_) (a' := ?_) #[true, true, true, false, false, false, false, false, false, false, false] rfl rfl (by kernel_rfl) (fun _ _ _ h => h) (Or.inl ⟨by rfl, ?_⟩) ?_ ?_
      rotate_left
      · intro w'
        go_simp
        with_reducible rfl
      rotate_left
      · simp only [Act.put, List.setIfInBounds_toArray, List.set_cons_zero, List.set_cons_succ, i64_w, i32_w]
        rfl
      refine pure_ (i := 3) (N := some 41) (v := ?_) (a' := ?_) #[true, true, true, true, false, false, false, false, false, false, false] rfl rfl (by kernel_rfl) (fun _ _ _ h => h) (Or.inl ⟨by rfl, ?_⟩) ?_ ?_
      rotate_left
      · intro w'
        go_simp
        with_reducible rfl
      rotate_left
      · simp only [Act.put, List.setIfInBounds_toArray, List.set_cons_zero, List.set_cons_succ, i64_w, i32_w]
        rfl
      refine take_ (i := 4) (N := some 42) (v := ?_) (a' := ?_) #[true, true, true, true, true, false, false, false, false, false, false] rfl rfl (by kernel_rfl) (fun _ _ _ h => h) (Or.inl ⟨by rfl, ?_⟩) hHeld ?_ ?_
      rotate_left
      · rintro w' ⟨s0, s1, s2⟩
        go_simp
        with_reducible rfl
      rotate_left
      · simp only [Act.put, List.setIfInBounds_toArray, List.set_cons_zero, List.set_cons_succ, i64_w, i32_w]
        rfl
      refine take_ (i := 5) (N := some 43) (v := ?_) (a' := ?_) #[true, true, true, true, true, true, false, false, false, false, false] rfl rfl (by kernel_rfl) (fun _ _ _ h => h) (Or.inl ⟨by rfl, ?_⟩) hHeld ?_ ?_
      rotate_left
      · rintro w' ⟨s0, s1, s2⟩
        go_simp
        with_reducible rfl
      rotate_left
      · simp only [Act.put, List.setIfInBounds_toArray, List.set_cons_zero, List.set_cons_succ, i64_w, i32_w]
        rfl
      refine one_ (i := 6) (N := some 44) #[true, true, true, true, true, true, true, false, false, false, false] rfl rfl (by kernel_rfl) (by decide) (fun K hK => ?_)
      refine value_ (w1 := ?_) (v := ?_) (by rfl) rfl ?_ ?_
      rotate_left 2
      · go_simp
        constructor
        · rfl
        · rfl
      refine hK.out _ _ ⟨((HBB.out _).cell 1), ((HBH.out _).cell 0), ((HBH.out _).cell 1)⟩ (fun hHeld => ?_)
      clear hK K
      refine norm_ (a' := ?_) ?_ ?_
      rotate_left
      · show Act.put _ (some 44) _ = _
        simp only [Act.put, List.setIfInBounds_toArray, List.set_cons_zero, List.set_cons_succ, i64_w, i32_w]
        rfl
      refine one_ (i := 7) (N := some 45) #[true, true, true, true, true, true, true, true, false, false, false] rfl rfl (by kernel_rfl) (by decide) (fun K hK => ?_)
      refine step_appN tyRh encH_ok (by rfl) _ _ (by rfl) HRW.out (by rfl) HSL.out (by rfl) hlen h63 ?_
      intro a4 c4 w7 hr7 hS7 hg7
      have hb7 := (HT2.out.blk_of (((Ext.refl [] _).drew).alloc _) hS7)
      have hh7 := (HBH.out _).keep (hS7 (Value.slice a3 m c3).ownBlock.toList (by simp +contextual)) (by intro hq; exact HNE.out (by simpa using hq))
      have hfz : w7.frozen? ⟨b, 1, none⟩ = false := hb7.free 1
      refine hK.out _ _ ⟨(hb7.cell 1), (hh7.cell 0), (hh7.cell 1)⟩ (fun hHeld => ?_)
      clear hK K
      refine norm_ (a' := ?_) ?_ ?_
      rotate_left
      · show Act.put _ (some 45) _ = _
        simp only [Act.put, List.setIfInBounds_toArray, List.set_cons_zero, List.set_cons_succ, i64_w, i32_w]
        rfl
      refine pure_ (i := 8) (N := some 46) (v := ?_) (a' := ?_) #[true, true, true, true, true, true, true, true, true, false, false] rfl rfl (by kernel_rfl) (fun _ _ _ h => h) (Or.inl ⟨by rfl, ?_⟩) ?_ ?_
      rotate_left
      · intro w'
        go_simp
        with_reducible rfl
      rotate_left
      · simp only [Act.put, List.setIfInBounds_toArray, List.set_cons_zero, List.set_cons_succ, i64_w, i32_w]
        rfl
      refine pure_ (i := 9) (N := some 47) (v := ?_) (a' := ?_) #[true, true, true, true, true, true, true, true, true, true, false] rfl rfl (by kernel_rfl) (fun _ _ _ h => h) (Or.inl ⟨by rfl, ?_⟩) ?_ ?_
      rotate_left
      · intro w'
        go_simp
        with_reducible rfl
      rotate_left
      · simp only [Act.put, List.setIfInBounds_toArray, List.set_cons_zero, List.set_cons_succ, i64_w, i32_w]
        rfl
      refine last_ (i := 10) (N := none) #[true, true, true, true, true, true, true, true, true, true, true] rfl rfl (by kernel_rfl) (by decide) (fun K hK => ?_)
      refine skip_ (w1 := ?_) (by rfl) rfl ?_ ?_
      rotate_left
      · go_simp
        rfl
      refine hK.out _ _ ?_
      clear hK K
      refine done_ (by kernel_rfl) ?_
      have hfin := HT2.out.appended (((Ext.refl [] _).drew).alloc _) hr7 hS7 (fun g hg => (hg7 g hg).imp_right (fun h => Nat.le_trans ((((Ext.refl [] w2).drew).alloc (.cells (encH ⟨key, x.uses + 1⟩).toArray 97 (0, 0))).size) h)) 1 (by simp)
      have HF := Lib.hid hfin
      clear hfin hr7 hS7 hg7 hb7 hh7
      go_wp2_with fail
      refine bodyPost_ret (v := .tuple #[.string ⟨#[]⟩, .int .i64 0]) (by simp [results, Try.results34, go_sem]) rfl ?_
      refine ⟨by rw [HU.out], _, by rw [HU.out]; exact HF.out.1, hE2.trans HF.out.2.1 ?_, ?_⟩
      · rw [← HSS.out]; exact HS2'.out
      · intro x hx
        rcases HF.out.2.2 x hx with h1 | h1
        · rw [← HSS.out] at h1; exact HS2'.out x h1
        · exact .inr (by omega)
end Go.Proofs.Ytmmhpjodnceipaa
