/- The hosts' table: Use, by contract. -/
import Derived.Test.YtmmhpjodnceipaaHosts
import Derived.Test.YtmmhpjodnceipaaWLast
import Derived.Deep.DeepCutAuto
import Derived.Deep.CutBlock
namespace Go.Proofs.Ytmmhpjodnceipaa
open Go.RowKit Go.Proofs.YtmmhpjodnceipaaW.PrintLast
set_option linter.unusedVariables false
set_option linter.unusedSimpArgs false

/-- A use more: which one went for it, what is told, what is there then. -/
def useM (most : Int) (xs : List Hs) (key : ByteArray) : ByteArray × Int × List Hs :=
  match xs.findIdx? (hasKey key) with
  | some i => match xs[i]? with
    | some x => if 6 ≤ x.uses then (⟨#[]⟩, 10, xs) else (⟨#[]⟩, 0, xs.eraseIdx i ++ [⟨key, x.uses + 1⟩])
    | none => (⟨#[]⟩, 10, xs)
  | none => if most ≤ xs.length then
      match xs.findIdx? isFree with
      | some i => match xs[i]? with
        | some x => (x.key, 0, xs.eraseIdx i ++ [⟨key, 1⟩])
        | none => (⟨#[]⟩, 10, xs)
      | none => (⟨#[]⟩, 10, xs)
    else (⟨#[]⟩, 0, xs ++ [⟨key, 1⟩])

section
variable {most : Int} {xs : List Hs} {key : ByteArray} {i : Nat} {x : Hs}
theorem useM_busy (h1 : xs[i]? = some x) (h2 : hasKey key x = true) (h4 : ∀ (j : Nat) y, j < i → xs[j]? = some y → hasKey key y = false) (h6 : 6 ≤ x.uses) : useM most xs key = (⟨#[]⟩, 10, xs) := by
  unfold useM; rw [findIdx_at h1 h2 h4]; simp only [h1]; rw [if_pos h6]
theorem useM_again (h1 : xs[i]? = some x) (h2 : hasKey key x = true) (h4 : ∀ (j : Nat) y, j < i → xs[j]? = some y → hasKey key y = false) (h6 : x.uses < 6) : useM most xs key = (⟨#[]⟩, 0, xs.eraseIdx i ++ [⟨key, x.uses + 1⟩]) := by
  unfold useM; rw [findIdx_at h1 h2 h4]; simp only [h1]; rw [if_neg (by omega)]
theorem useM_room (h : ∀ x ∈ xs, hasKey key x = false) (hm : (xs.length : Int) < most) : useM most xs key = (⟨#[]⟩, 0, xs ++ [⟨key, 0 + 1⟩]) := by
  unfold useM; rw [findIdx_none h]; simp only []; rw [if_neg (by omega)]; rfl
theorem useM_full (h : ∀ x ∈ xs, hasKey key x = false) (hm : most ≤ (xs.length : Int)) (h' : ∀ x ∈ xs, isFree x = false) : useM most xs key = (⟨#[]⟩, 10, xs) := by
  unfold useM; rw [findIdx_none h]; simp only []; rw [if_pos hm, findIdx_none h']
theorem useM_gone (h : ∀ x ∈ xs, hasKey key x = false) (hm : most ≤ (xs.length : Int)) (h1 : xs[i]? = some x) (h2 : isFree x = true) (h4 : ∀ (j : Nat) y, j < i → xs[j]? = some y → isFree y = false) : useM most xs key = (x.key, 0, xs.eraseIdx i ++ [⟨key, 0 + 1⟩]) := by
  unfold useM; rw [findIdx_none h]; simp only []; rw [if_pos hm, findIdx_at h1 h2 h4]; simp only [h1]; rfl
end

/-- What holds ahead of the last part: gone has gone, the host's cells lie at H, it stands at at'. -/
def UMid (most : Int) (b : Nat) (v : Value) (xs : List Hs) (key : ByteArray) (w wx : World) (gone : ByteArray) (H : Nat) (at' : Int) : Prop :=
  ∃ u : Int, Tb most wx b v xs ∧ Blk wx H #[.string key, .int .i64 u] 77 ∧ w.heap.size ≤ H ∧ Ext [] w wx ∧ 0 ≤ u ∧ u ≤ 5 ∧
    ((at' = -1 ∧ useM most xs key = (gone, 0, xs ++ [⟨key, u + 1⟩])) ∨ ∃ i : Nat, at' = i ∧ i < xs.length ∧ useM most xs key = (gone, 0, xs.eraseIdx i ++ [⟨key, u + 1⟩]))

/-- What holds behind the taking out. -/
def UTail (most : Int) (b : Nat) (v : Value) (xs : List Hs) (key : ByteArray) (w wx : World) (gone : ByteArray) (H : Nat) : Prop :=
  ∃ (u : Int) (v' : Value) (ys : List Hs), Tb most wx b v' ys ∧ ys.length ≤ xs.length ∧ Blk wx H #[.string key, .int .i64 u] 77 ∧ w.heap.size ≤ H ∧ Ext (b :: v.ownBlock.toList) w wx ∧ v'.ownBlock = v.ownBlock ∧ 0 ≤ u ∧ u ≤ 5 ∧ useM most xs key = (gone, 0, ys ++ [⟨key, u + 1⟩])

def UseP (most : Int) (b : Nat) (v : Value) (xs : List Hs) (key : ByteArray) (w : World) (e : Ending) (w' : World) : Prop :=
  e = .returned (.tuple #[.string (useM most xs key).1, .int .i64 (useM most xs key).2.1]) ∧ ∃ v', Tb most w' b v' (useM most xs key).2.2 ∧ Ext (b :: v.ownBlock.toList) w w' ∧ (∀ x ∈ b :: v'.ownBlock.toList, x ∈ b :: v.ownBlock.toList ∨ w.heap.size ≤ x)

set_option maxHeartbeats 6400000 in
set_option maxRecDepth 100000 in
theorem use_any (most : Int) (b : Nat) (v : Value) (xs : List Hs) (key : ByteArray) (hx : xs.length < 100000) (w : World) (h : Tb most w b v xs) (hok : HsOk xs) :
    Calls Try.prog 14 #[.pointer (some ⟨b, 0, none⟩), .string key] w (UseP most b v xs key w) := by
  have hlt := h.blk.lt
  have cat := fun W (hW : Ext [] w W) => place_any most b v xs key (by omega) W (h.keep hW (by simp))
  obtain ⟨a, cap, rfl⟩ := h.row.val
  obtain ⟨n, hn⟩ : ∃ n, n = xs.length := ⟨_, rfl⟩
  rw [← hn] at h ⊢
  have eg := enters_of Try.func44 (by kernel_rfl) rfl
  have cfr := fun W (hW : Ext [] w W) => hs_indexFunc encH encH_ok.len isFree _ _ eg _ xs (by omega) W ((h.keep hW (by simp)).row) (isFreeH W)
  have HN := Lib.hid hn; have HH := Lib.hid h; have HOK := Lib.hid hok
  have hn1 : n < 100000 := by omega
  have CFR := Lib.hid cfr
  clear hx hn h hok cfr
  go_enter Try.func14, Try.ntmps14
  have CAT := Lib.hid cat
  clear cat
  go_upto_block 0 with ((go_at_call 42; refine (CAT.out _ ((Ext.refl _ _).alloc _)).mono ?_; rintro e w1 ⟨rfl, e1⟩))
  have hB1 : Blk w1 w.heap.size #[.string key, .int .i64 0] 77 := (Blk.new w _ _).keep e1 (by simp)
  have e1 : Ext [] w w1 := ((Ext.refl _ _).alloc _).trans e1 (by simp)
  have hHb : w.heap.size ≠ b := by omega
  generalize hHH : w.heap.size = H at hB1 hHb ⊢
  have hH : w.heap.size ≤ H := by omega
  have hrl := HH.out.row.lt
  clear hHH
  go_cut [6, 7, 8] (fun s6 s7 s8 wx => ∃ (gone : ByteArray) (at' : Int), s6 = .string gone ∧ s7 = .pointer (some ⟨H, 0, none⟩) ∧ s8 = .int .i64 at' ∧ UMid most b (.slice a n cap) xs key w wx gone H at')
  case first =>
    have hk1 := HH.out.keep e1 (by simp)
    have hcv : w1.cell? ⟨b, 0, none⟩ = some (.slice a n cap) := hk1.blk.cell 0
    have hcm : w1.cell? ⟨b, 1, none⟩ = some (.int .i64 most) := hk1.blk.cell 1
    have hh0 : w1.cell? ⟨H, 0, none⟩ = some (.string key) := hB1.cell 0
    have hh1 : w1.cell? ⟨H, 1, none⟩ = some (.int .i64 0) := hB1.cell 1
    have hf0 : w1.frozen? ⟨H, 0, none⟩ = false := hB1.free 0
    have hf1 : w1.frozen? ⟨H, 1, none⟩ = false := hB1.free 1
    have HK1 := Lib.hid hk1; have HB1 := Lib.hid hB1
    clear hk1 hB1
    rcases idxI_spec (hasKey key) xs with ⟨h1, h2⟩ | ⟨i, x, h1, h2, h4, h3⟩
    · rw [h1]
      clear h1
      by_cases hm : most ≤ (n : Int)
      · have d1 : decide (most ≤ (n : Int)) = true := decide_eq_true hm
        rcases idxI_spec isFree xs with ⟨k1, k2⟩ | ⟨i, x, k1, k2, k4, k3⟩
        · have hU := useM_full (key := key) h2 (by rw [← HN.out]; exact hm) k2
          have HU := Lib.hid hU
          rw [k1] at CFR
          clear h2 k1 k2 hU
          go_wp2_with fail
          go_quiet (fail)
          go_wp2_with fail
          refine (CFR.out _ (e1.drewN _)).mono ?_
          rintro e w2 ⟨rfl, e2⟩
          go_wp2_with fail
          refine bodyPost_ret (v := .tuple #[.string ⟨#[]⟩, .int .i64 10]) (by simp [results, Try.results14, go_sem]) rfl ?_
          have e3 := (e1.drewN _).trans e2 (by simp)
          refine ⟨by rw [HU.out], _, by rw [HU.out]; exact HH.out.keep e3 (by simp), e3.mono (by simp), fun x hx => .inl hx⟩
        · have hU := useM_gone (key := key) h2 (by rw [← HN.out]; exact hm) k1 k2 k4
          have HU := Lib.hid hU; have K1 := Lib.hid k1
          have hil : i < n := by rw [HN.out]; exact (List.getElem?_eq_some_iff.1 k1).1
          obtain ⟨g, rfl, hgl⟩ := HK1.out.row.addr (by omega)
          have b1 : (0 : Int) ≤ (i : Int) := by omega
          have b2 : (i : Int) < (n : Int) := by omega
          rw [k3] at CFR
          clear h2 k1 k2 k4 k3 hU
          go_wp2_with fail
          go_quiet (fail)
          go_wp2_with fail
          refine (CFR.out _ (e1.drewN _)).mono ?_
          rintro e w2 ⟨rfl, e2⟩
          have hk2 := (HK1.out.keep ((Ext.refl [] _).drewN nq) (by simp)).keep e2 (by simp)
          have hcv2 : w2.cell? ⟨b, 0, none⟩ = some (.slice (some ⟨g, 0, none⟩) n cap) := hk2.blk.cell 0
          have hx0 := hk2.row.cell encH_ok.len K1.out 0 (by omega)
          simp only [encH, Nat.add_zero, List.getElem?_cons_zero, List.getElem?_cons_succ] at hx0
          have HK2 := Lib.hid hk2
          clear hk2
          go_wp2_with fail
          go_meet
          have e3 := (e1.drewN _).trans e2 (by simp)
          exact ⟨x.key, i, rfl, rfl, rfl, 0, HK2.out, (HB1.out.drewN _).keep e2 (by simp), hH, e3, by omega, by omega, .inr ⟨i, rfl, by rw [← HN.out]; exact hil, HU.out⟩⟩
      · have d1 : decide (most ≤ (n : Int)) = false := decide_eq_false hm
        have hU := useM_room (key := key) h2 (show (xs.length : Int) < most by rw [← HN.out]; omega)
        have HU := Lib.hid hU
        clear h2 hU
        go_wp2_with fail
        go_quiet (fail)
        go_wp2_with fail
        go_meet
        exact ⟨⟨#[]⟩, -1, rfl, rfl, rfl, 0, HK1.out.keep ((Ext.refl [] _).drewN nq) (by simp), HB1.out.drewN _, hH, e1.drewN _, by omega, by omega, .inl ⟨rfl, HU.out⟩⟩
    · have hil : i < n := by rw [HN.out]; exact (List.getElem?_eq_some_iff.1 h1).1
      obtain ⟨g, rfl, hgl⟩ := HK1.out.row.addr (by omega)
      have b1 : (0 : Int) ≤ (i : Int) := by omega
      have b2 : (i : Int) < (n : Int) := by omega
      obtain ⟨u0, u6⟩ := HOK.out x (List.mem_of_getElem? h1)
      have hx0 := HK1.out.row.cell encH_ok.len h1 0 (by omega)
      have hx1 := HK1.out.row.cell encH_ok.len h1 1 (by omega)
      simp only [encH, Nat.add_zero, List.getElem?_cons_zero, List.getElem?_cons_succ] at hx0 hx1
      rw [h3]
      have hxk : x.key = key := by simpa [hasKey] using h2
      rw [hxk] at hx0
      by_cases hu : 6 ≤ x.uses
      · have d1 : decide (6 ≤ x.uses) = true := decide_eq_true hu
        have hU := useM_busy (most := most) h1 h2 h4 hu
        have HU := Lib.hid hU
        clear h1 h2 h4 h3 hU hxk
        go_wp2_with fail
        refine bodyPost_ret (v := .tuple #[.string ⟨#[]⟩, .int .i64 10]) (by simp [results, Try.results14, go_sem]) rfl ?_
        exact ⟨by rw [HU.out], _, by rw [HU.out]; exact HK1.out, e1.mono (by simp), fun x hx => .inl hx⟩
      · have d1 : decide (6 ≤ x.uses) = false := decide_eq_false hu
        have hU := useM_again (most := most) h1 h2 h4 (by omega)
        have HU := Lib.hid hU
        clear h1 h2 h4 h3 hU hxk
        go_wp2_with fail
        go_meet
        have hg1 : g ≠ H := by have := hrl g rfl; omega
        have e2 : Ext [H] w1 ((w1.setCell ⟨H, 0, none⟩ (.string key)).setCell ⟨H, 1, none⟩ (.int .i64 x.uses)) := ((Ext.refl _ _).setCell (Or.inl (by simp)) _).setCell (Or.inl (by simp)) _
        refine ⟨⟨#[]⟩, i, rfl, rfl, rfl, x.uses, HK1.out.keep e2 ?_, ((HB1.out.set 0 _).set 1 _), hH, (e1.mono (T := []) (by simp)).trans e2 (by simp; exact hH), u0, by omega, .inr ⟨i, rfl, by rw [← HN.out]; exact hil, HU.out⟩⟩
        intro y hy
        simp [Value.ownBlock] at hy ⊢
        rcases hy with rfl | rfl
        · exact fun e => hHb e.symm
        · exact hg1
  case rest =>
    obtain ⟨gone, at', rfl, rfl, rfl, hmid⟩ := hcut
    go_upto_if 67 with fail
    go_cut [6, 7] (fun s6 s7 wx => s6 = .string gone ∧ s7 = .pointer (some ⟨H, 0, none⟩) ∧ UTail most b (.slice a n cap) xs key w wx gone H)
    case first =>
      obtain ⟨u, hT, hBH, hHge, hE, u0, u5, hca⟩ := hmid
      rcases hca with ⟨rfl, hU⟩ | ⟨i, rfl, hil, hU⟩
      · have HU := Lib.hid hU; have HT := Lib.hid hT
        clear hU hT
        go_wp2_with fail
        go_meet
        exact ⟨rfl, rfl, u, _, xs, HT.out, Nat.le_refl _, hBH, hHge, hE.mono (by simp), rfl, u0, u5, HU.out⟩
      · rw [← HN.out] at hil
        obtain ⟨g, rfl, hgl⟩ := hT.row.addr (by omega)
        have hcv : wc.cell? ⟨b, 0, none⟩ = some (.slice (some ⟨g, 0, none⟩) n cap) := hT.blk.cell 0
        have hil2 : i < xs.length := by rw [← HN.out]; exact hil
        have hdl := hs_delete encH encH_ok g n cap i xs hil (by omega) wc hT.row
        have b1 : (0 : Int) ≤ (i : Int) := by omega
        have HU := Lib.hid hU; have HT := Lib.hid hT; have HBH := Lib.hid hBH
        clear hU hT hBH
        go_wp2_with fail
        refine hdl.mono ?_
        rintro e w2 ⟨rfl, hr2, e2⟩
        have hb2 := HT.out.blk_at rfl e2
        have hcb : w2.cell? ⟨b, 0, none⟩ = some (.slice (some ⟨g, 0, none⟩) n cap) := hb2.cell 0
        have hfb : w2.frozen? ⟨b, 0, none⟩ = false := hb2.free 0
        have hfin := HT.out.changed (v' := .slice (some ⟨g, 0, none⟩) (n - 1) cap) rfl rfl hr2 e2 0 (by simp)
        have hg1 : g ≠ H := by have := hrl g rfl; omega
        have hBH2 := HBH.out.keep e2 (by simp; exact fun e => hg1 e.symm)
        have HF := Lib.hid hfin; have HB2 := Lib.hid hBH2
        clear hfin hr2 hcv hb2 hBH2 hdl
        go_wp2_with fail
        go_meet
        exact ⟨rfl, rfl, u, _, _, HF.out.1, by rw [List.length_eraseIdx_of_lt hil2]; omega, HB2.out.set_ne (by exact fun e => hHb e.symm) _, hHge, (hE.mono (by simp)).trans HF.out.2 (fun _ hq => Or.inl hq), rfl, u0, u5, HU.out⟩
    case rest =>
      obtain ⟨rfl, rfl, u, v', ys, hT, hyl, hBH, hHge, hE, hvo, u0, u5, hU⟩ := hcut
      have hyn : ys.length ≤ n := by rw [HN.out]; exact hyl
      have hh0 : wc.cell? ⟨H, 0, none⟩ = some (.string key) := hBH.cell 0
      have hh1 : wc.cell? ⟨H, 1, none⟩ = some (.int .i64 u) := hBH.cell 1
      have hf1 : wc.frozen? ⟨H, 1, none⟩ = false := hBH.free 1
      obtain ⟨a3, c3, rfl⟩ := hT.row.val
      obtain ⟨m, hm⟩ : ∃ m, m = ys.length := ⟨_, rfl⟩
      rw [← hm] at hT hvo
      have hmn : m ≤ n := by omega
      have h63 : m + 1 ≤ 1000000 := by omega
      have hlen : LenIs ys [(⟨key, u + 1⟩ : Hs)] (m + 1) := by unfold LenIs; rw [← hm]; rfl
      have HU := Lib.hid hU; have HT := Lib.hid hT; have HBH := Lib.hid hBH; have HM := Lib.hid hm
      clear hU hT hBH hm
      go_wp2_with fail
      have e6 : Ext [H] wc (wc.setCell ⟨H, 1, none⟩ (.int .i64 (u + 1))) := (Ext.refl _ _).setCell (Or.inl (by simp)) _
      have hB6 : Blk (wc.setCell ⟨H, 1, none⟩ (.int .i64 (u + 1))) H #[.string key, .int .i64 (u + 1)] 77 := HBH.out.set 1 _
      have hT6 := HT.out.keep e6 (by
        intro y hy
        rcases List.mem_cons.1 hy with rfl | hy
        · simp; exact fun e => hHb e.symm
        · have := hrl y (by rw [← hvo]; simpa using hy)
          simp; omega)
      have hE6 : Ext (b :: (Value.slice a n cap).ownBlock.toList) w (wc.setCell ⟨H, 1, none⟩ (.int .i64 (u + 1))) := hE.trans e6 (by simp; exact Or.inr hH)
      generalize wc.setCell ⟨H, 1, none⟩ (.int .i64 (u + 1)) = w6 at hB6 hT6 hE6 ⊢
      clear hh0 hh1 hf1 e6 HBH HT
      have hh0 : w6.cell? ⟨H, 0, none⟩ = some (.string key) := hB6.cell 0
      have hh1 : w6.cell? ⟨H, 1, none⟩ = some (.int .i64 (u + 1)) := hB6.cell 1
      have hcv : w6.cell? ⟨b, 0, none⟩ = some (.slice a3 m c3) := hT6.blk.cell 0
      have hsl := Sl.new (enc := encH) w6.drew ⟨key, u + 1⟩ 77
      have hrw := (hT6.row.drew).alloc (.cells (encH ⟨key, u + 1⟩).toArray 77 (0, 0))
      have hbb : ∀ o, Blk (w6.drew.alloc o) b #[.slice a3 m c3, .int .i64 most] 75 := fun o => hT6.blk.drew.alloc o
      have hbh : ∀ o, Blk (w6.drew.alloc o) H #[.string key, .int .i64 (u + 1)] 77 := fun o => hB6.drew.alloc o
      have HT6 := Lib.hid hT6; have HSL := Lib.hid hsl; have HRW := Lib.hid hrw; have HBB := Lib.hid hbb; have HBH6 := Lib.hid hbh
      have hlt6 := hT6.blk.lt
      have hltH := hB6.lt
      clear hT6 hsl hrw hbb hbh hB6
      refine start_ (n := 11) (S := fun w' => w'.cell? ⟨b, 0, none⟩ = some (.slice a3 m c3) ∧ w'.cell? ⟨H, 0, none⟩ = some (.string key) ∧ w'.cell? ⟨H, 1, none⟩ = some (.int .i64 (u + 1))) (ds := [10]) #[false, false, false, false, false, false, false, false, false, false, false] (by kernel_rfl) rfl rfl ⟨hcv, hh0, hh1⟩ (fun hHeld => ?_)
      refine pure_ (i := 0) (N := some 83) (v := ?_) (a' := ?_) #[true, false, false, false, false, false, false, false, false, false, false] rfl rfl (by kernel_rfl) (fun _ _ _ h => h) (Or.inl ⟨by rfl, ?_⟩) ?_ ?_
      rotate_left
      · intro w'
        go_simp
        with_reducible rfl
      rotate_left
      · simp only [Act.put, List.setIfInBounds_toArray, List.set_cons_zero, List.set_cons_succ, i64_w, i32_w]
        rfl
      refine pure_ (i := 1) (N := some 84) (v := ?_) (a' := ?_) #[true, true, false, false, false, false, false, false, false, false, false] rfl rfl (by kernel_rfl) (fun _ _ _ h => h) (Or.inl ⟨by rfl, ?_⟩) ?_ ?_
      rotate_left
      · intro w'
        go_simp
        with_reducible rfl
      rotate_left
      · simp only [Act.put, List.setIfInBounds_toArray, List.set_cons_zero, List.set_cons_succ, i64_w, i32_w]
        rfl
      refine pure_ (i := 2) (N := some 85) (v := ?_) (a' := ?_) #[true, true, true, false, false, false, false, false, false, false, false] rfl rfl (by kernel_rfl) (fun _ _ _ h => h) (Or.inl ⟨by rfl, ?_⟩) ?_ ?_
      rotate_left
      · intro w'
        go_simp
        with_reducible rfl
      rotate_left
      · simp only [Act.put, List.setIfInBounds_toArray, List.set_cons_zero, List.set_cons_succ, i64_w, i32_w]
        rfl
      refine pure_ (i := 3) (N := some 86) (v := ?_) (a' := ?_) #[true, true, true, true, false, false, false, false, false, false, false] rfl rfl (by kernel_rfl) (fun _ _ _ h => h) (Or.inl ⟨by rfl, ?_⟩) ?_ ?_
      rotate_left
      · intro w'
        go_simp
        with_reducible rfl
      rotate_left
      · simp only [Act.put, List.setIfInBounds_toArray, List.set_cons_zero, List.set_cons_succ, i64_w, i32_w]
        rfl
      refine take_ (i := 4) (N := some 87) (v := ?_) (a' := ?_) #[true, true, true, true, true, false, false, false, false, false, false] rfl rfl (by kernel_rfl) (fun _ _ _ h => h) (Or.inl ⟨by rfl, ?_⟩) hHeld ?_ ?_
      rotate_left
      · rintro w' ⟨s0, s1, s2⟩
        go_simp
        with_reducible rfl
      rotate_left
      · simp only [Act.put, List.setIfInBounds_toArray, List.set_cons_zero, List.set_cons_succ, i64_w, i32_w]
        rfl
      refine take_ (i := 5) (N := some 88) (v := ?_) (a' := ?_) #[true, true, true, true, true, true, false, false, false, false, false] rfl rfl (by kernel_rfl) (fun _ _ _ h => h) (Or.inl ⟨by rfl, ?_⟩) hHeld ?_ ?_
      rotate_left
      · rintro w' ⟨s0, s1, s2⟩
        go_simp
        with_reducible rfl
      rotate_left
      · simp only [Act.put, List.setIfInBounds_toArray, List.set_cons_zero, List.set_cons_succ, i64_w, i32_w]
        rfl
      refine one_ (i := 6) (N := some 89) #[true, true, true, true, true, true, true, false, false, false, false] rfl rfl (by kernel_rfl) (by decide) (fun K hK => ?_)
      refine value_ (w1 := ?_) (v := ?_) (by rfl) rfl ?_ ?_
      rotate_left 2
      · go_simp
        constructor
        · rfl
        · rfl
      refine hK.out _ _ ⟨((HBB.out _).cell 0), ((HBH6.out _).cell 0), ((HBH6.out _).cell 1)⟩ (fun hHeld => ?_)
      clear hK K
      refine norm_ (a' := ?_) ?_ ?_
      rotate_left
      · show Act.put _ (some 89) _ = _
        simp only [Act.put, List.setIfInBounds_toArray, List.set_cons_zero, List.set_cons_succ, i64_w, i32_w]
        rfl
      refine one_ (i := 7) (N := some 90) #[true, true, true, true, true, true, true, true, false, false, false] rfl rfl (by kernel_rfl) (by decide) (fun K hK => ?_)
      refine step_appN tyHs encH_ok (by rfl) _ _ (by rfl) HRW.out (by rfl) HSL.out (by rfl) hlen h63 ?_
      intro a4 c4 w7 hr7 hS7 hg7
      have hb7 := (HT6.out.blk_of (((Ext.refl [] _).drew).alloc _) hS7)
      have hh7 := (HBH6.out _).keep (hS7 (Value.slice a3 m c3).ownBlock.toList (by simp +contextual)) (by rw [hvo]; intro hq; have := hrl H (by simpa using hq); omega)
      have hfz : w7.frozen? ⟨b, 0, none⟩ = false := hb7.free 0
      refine hK.out _ _ ⟨(hb7.cell 0), (hh7.cell 0), (hh7.cell 1)⟩ (fun hHeld => ?_)
      clear hK K
      refine norm_ (a' := ?_) ?_ ?_
      rotate_left
      · show Act.put _ (some 90) _ = _
        simp only [Act.put, List.setIfInBounds_toArray, List.set_cons_zero, List.set_cons_succ, i64_w, i32_w]
        rfl
      refine pure_ (i := 8) (N := some 91) (v := ?_) (a' := ?_) #[true, true, true, true, true, true, true, true, true, false, false] rfl rfl (by kernel_rfl) (fun _ _ _ h => h) (Or.inl ⟨by rfl, ?_⟩) ?_ ?_
      rotate_left
      · intro w'
        go_simp
        with_reducible rfl
      rotate_left
      · simp only [Act.put, List.setIfInBounds_toArray, List.set_cons_zero, List.set_cons_succ, i64_w, i32_w]
        rfl
      refine pure_ (i := 9) (N := some 92) (v := ?_) (a' := ?_) #[true, true, true, true, true, true, true, true, true, true, false] rfl rfl (by kernel_rfl) (fun _ _ _ h => h) (Or.inl ⟨by rfl, ?_⟩) ?_ ?_
      rotate_left
      · intro w'
        go_simp
        with_reducible rfl
      rotate_left
      · simp only [Act.put, List.setIfInBounds_toArray, List.set_cons_zero, List.set_cons_succ, i64_w, i32_w]
        rfl
      refine last_ (i := 10) (N := none) #[true, true, true, true, true, true, true, true, true, true, true] rfl rfl (by kernel_rfl) (by decide) (fun K hK => ?_)
      refine skip_ (w1 := ?_) (by rfl) rfl ?_ ?_
      rotate_left
      · go_simp
        rfl
      refine hK.out _ _ ?_
      clear hK K
      refine done_ (by kernel_rfl) ?_
      have hfin := HT6.out.appended (((Ext.refl [] _).drew).alloc _) hr7 hS7 (fun g hg => (hg7 g hg).imp_right (fun h => Nat.le_trans ((((Ext.refl [] w6).drew).alloc (.cells (encH ⟨key, u + 1⟩).toArray 77 (0, 0))).size) h)) 0 (by simp)
      have HF := Lib.hid hfin
      have hs6 := hE6.size
      clear hfin hr7 hS7 hg7 hb7 hh7
      go_wp2_with fail
      refine bodyPost_ret (v := .tuple #[.string gone, .int .i64 0]) (by simp [results, Try.results14, go_sem]) rfl ?_
      refine ⟨by rw [HU.out], _, by rw [HU.out]; exact HF.out.1, hE6.trans HF.out.2.1 ?_, ?_⟩
      · rw [hvo]; exact fun x hx => .inl hx
      · intro x hx
        rcases HF.out.2.2 x hx with h1 | h1
        · rw [hvo] at h1; exact .inl h1
        · exact .inr (by omega)
end Go.Proofs.Ytmmhpjodnceipaa
