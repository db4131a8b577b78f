/- slices.DeleteFunc at rows of whole numbers. -/
import Derived.Test.YtkbjpackijdnkaaIntIdx
import Derived.Deep.DeepCutAuto
namespace Go.Proofs.Ytkbjpackijdnkaa
open Go.RowKit
set_option linter.unusedVariables false
set_option linter.unusedSimpArgs false

/-- What a row is told behind a DeleteFunc. -/
def DelI (p : Int → Bool) (v : Value) (xs : List Int) (w : World) (e : Ending) (w' : World) : Prop :=
  ∃ (a : Option Addr) (m c : Nat), e = .returned (.slice a m c) ∧ RI w' (.slice a m c) (xs.filter fun x => !p x) ∧ (Value.slice a m c).ownBlock = v.ownBlock ∧ Ext v.ownBlock.toList w w'

theorem filterI_step {p : Int → Bool} {xs : List Int} {j : Nat} {x : Int} (hx : xs[j]? = some x) : (xs.take (j + 1)).filter p = (xs.take j).filter p ++ (if p x then [x] else []) := by
  rw [List.take_add_one, hx, List.filter_append]
  cases h : p x <;> simp [h]

set_option maxHeartbeats 3200000 in
set_option maxRecDepth 100000 in
theorem intDeleteFunc_any (p : Int → Bool) (gf : Nat) (lb : Array Value) (eg : ∀ args w, (callFunc gf args).run Try.prog w = .ok (.enter gf args) w)
    (v : Value) (xs : List Int) (hx : xs.length < 1000000) (w : World) (h : RI w v xs) (hp : ∀ W, Ext v.ownBlock.toList w W → PredI Try.prog gf lb p W) :
    Calls Try.prog 65 #[v, .func (.func gf) #[] lb] w (DelI p v xs w) := by
  have hi := intIndexFunc_any p gf lb eg v xs hx w h (hp w (Ext.refl _ _))
  rcases idxI_spec p xs with ⟨h1, h2⟩ | ⟨i0, x0, h1, h2, h3, h4⟩
  · rw [h1] at hi
    have hA : (xs.filter fun x => !p x) = xs := by rw [List.filter_eq_self]; intro x hx; simp [h2 x hx]
    have HA := Lib.hid hA
    have HI := Lib.hid hi
    obtain ⟨a, cap, rfl⟩ := h.val
    obtain ⟨n, hn⟩ : ∃ n, n = xs.length := ⟨_, rfl⟩
    rw [← hn] at h HI ⊢
    have HH := Lib.hid h
    clear h1 h2 hA hi h hp hx hn
    go_enter Try.func65, Try.ntmps65
    go_wp2_with fail
    refine HI.out.mono ?_
    rintro e w1 ⟨rfl, e1⟩
    go_wp2_with fail
    refine bodyPost_ret (v := .slice a n cap) (by simp [results, Try.results65, go_sem]) rfl ?_
    unfold DelI
    rw [HA.out]
    exact ⟨a, n, cap, rfl, HH.out.keep e1 (by simp), rfl, e1.mono (by simp)⟩
  · rw [h4] at hi
    have hi0 := (List.getElem?_eq_some_iff.1 h1).1
    obtain ⟨a, cap, rfl⟩ := h.val
    obtain ⟨n, hn⟩ : ∃ n, n = xs.length := ⟨_, rfl⟩
    rw [← hn] at h hi hp hi0 hx ⊢
    obtain ⟨g, rfl, hgl⟩ := h.addr (by omega)
    have hcap := h.cap_le
    have hst : xs.take i0 = (xs.take (i0 + 1)).filter fun x => !p x := by
      rw [filterI_step h1, h2]
      simp only [Bool.not_true, Bool.false_eq_true, if_false, List.append_nil]
      symm
      rw [List.filter_eq_self]
      intro x hx
      obtain ⟨k, hk, rfl⟩ := List.mem_iff_getElem.1 hx
      have hkl : k < i0 := by rw [List.length_take] at hk; omega
      have := h3 k _ hkl (List.getElem?_eq_getElem (by omega))
      rw [List.getElem_take, this]; rfl
    have HN := Lib.hid hn; have HI := Lib.hid hi; have HP := Lib.hid hp; have HH := Lib.hid h; have HST := Lib.hid hst
    have hne : ((i0 : Int) == -1) = false := by rw [beq_eq_false_iff_ne]; omega
    have ho : (Value.slice (some ⟨g, 0, none⟩) n cap).ownBlock = some g := rfl
    clear h1 h2 h3 h4 hi h hp hn hst
    go_enter Try.func65, Try.ntmps65
    go_wp2_with fail
    refine HI.out.mono ?_
    rintro e w1 ⟨rfl, e1⟩
    go_wp2_with fail
    go_loopw [5, 6] (fun iv jv wr => ∃ (i j : Nat) (ys : List Int), i < j ∧ j ≤ n ∧ iv = .int .i64 i ∧ jv = .int .i64 j ∧ RI wr (.slice (some ⟨g, 0, none⟩) n cap) ys ∧ Ext [g] w wr ∧ Hid (n = ys.length) ∧ Hid (ys.take i = (xs.take j).filter fun x => !p x) ∧ Hid (ys.drop j = xs.drop j)) (fun _ jv _ => n - (intOf jv).toNat)
    case atStart => exact ⟨i0, i0 + 1, xs, Nat.lt_succ_self _, by omega, rfl, by go_num, HH.out.keep e1 (by simp), e1.mono (by simp), HN.out, HST.out, rfl⟩
    case round =>
      obtain ⟨i, j, ys, hij, hjn, rfl, rfl, hR, hex, hyl, hyt, hyd⟩ := hrel
      by_cases hj : j < n
      · have d1 : decide (j < n) = true := decide_eq_true hj
        obtain ⟨x, hxj⟩ : ∃ x, xs[j]? = some x := ⟨_, List.getElem?_eq_getElem (by rw [← HN.out]; exact hj)⟩
        have hyj : ys[j]? = some x := by
          have h8 := congrArg (fun l => l[0]?) hyd.out
          simp only [List.getElem?_drop, Nat.add_zero] at h8
          rw [h8, hxj]
        have l0 := hR.cell encI_ok.len hyj 0 (by omega)
        simp only [encI, Nat.add_zero, Nat.mul_one, List.getElem?_cons_zero] at l0
        have b1 : (0 : Int) ≤ (j : Int) := by omega
        have b2 : (j : Int) < (n : Int) := by omega
        have b3 : (0 : Int) ≤ (i : Int) := by omega
        have b4 : (i : Int) < (n : Int) := by omega
        have hcall := HP.out wr (by rw [ho]; exact hex) _ x (Ext.refl _ _)
        have hyd2 : ys.drop (j + 1) = xs.drop (j + 1) := by
          have := congrArg (List.drop 1) hyd.out
          simpa [List.drop_drop, Nat.add_comm] using this
        have hfs := filterI_step (p := fun x => !p x) hxj
        have hgw := hex.size
        have HYD2 := Lib.hid hyd2; have HFS := Lib.hid hfs; have HR := Lib.hid hR; have HEX := Lib.hid hex
        have hgl2 : g < wr.heap.size := by omega
        clear hxj hyj hyd2 hfs hR hex hyd
        cases hq : p x with
        | true =>
          rw [hq] at hcall HFS
          go_wp2_with (go_at_fn gf; refine hcall.mono ?_; rintro e w' ⟨rfl, hb'⟩)
          refine ⟨⟨i, j + 1, ys, by omega, by omega, rfl, by go_num, HR.out.keep hb' (by simp), HEX.out.trans hb' (by simp), hyl, ?_, HYD2.out⟩, by simp [intOf]; omega⟩
          show _ = _
          rw [HFS.out, hyt.out]; simp
        | false =>
          rw [hq] at hcall HFS
          have HC := Lib.hid hcall
          clear hcall
          go_wp2_with fail
          refine HC.out.mono ?_
          rintro e w4 ⟨rfl, hb'⟩
          have hR4 := HR.out.keep hb' (by simp)
          have hE4 := HEX.out.trans hb' (by simp)
          have hil : i < ys.length := by rw [← hyl.out]; omega
          have hput := hR4.put encI_ok.len hil x
          rw [Nat.mul_one] at hput
          have hf4 := hR4.free i
          have hc4 : ∃ u, w4.cell? ⟨g, i, none⟩ = some u := by
            have := hR4.cell encI_ok.len (List.getElem?_eq_getElem hil) 0 (by omega)
            rw [Nat.mul_one, Nat.add_zero] at this
            exact ⟨_, this⟩
          obtain ⟨u4, hc4⟩ := hc4
          have hEp : Ext [g] w (w4.setCell ⟨g, i, none⟩ (.int .i64 x)) := hE4.setCell (Or.inl (by simp)) _
          have hput : RI (w4.setCell ⟨g, i, none⟩ (.int .i64 x)) (.slice (some ⟨g, 0, none⟩) n cap) (ys.set i x) := hput
          have HPUT := Lib.hid hput; have HEP := Lib.hid hEp; have HIL := Lib.hid hil
          clear hput hEp hR4 hE4 hil l0 HC
          go_wp2_with fail
          refine ⟨⟨i + 1, j + 1, ys.set i x, by omega, by omega, by go_num, by go_num, HPUT.out, HEP.out, ?_, ?_, ?_⟩, by simp [intOf]; omega⟩
          · show _ = _
            rw [List.length_set]; exact hyl.out
          · show _ = _
            rw [HFS.out, ← hyt.out, List.take_add_one, List.getElem?_set, if_pos rfl, if_pos HIL.out, List.take_set_of_le (Nat.le_refl _)]
            simp
          · show _ = _
            rw [← HYD2.out, List.drop_set, if_pos (by omega)]
      · have d1 : decide (j < n) = false := decide_eq_false hj
        have hfin : ys.take i = xs.filter fun x => !p x := by
          rw [hyt.out, List.take_of_length_le (by rw [← HN.out]; omega)]
        have hin : i < n := by omega
        obtain ⟨zv, hz0, hz1, hz2⟩ : ∃ zv, (∀ w, (zeroValue 3).run Try.prog w = .ok zv w) ∧ zv.cells.size = 1 ∧ ∀ u ∈ zv.cells, u.oneCell' = true := ⟨_, Try.zeroValue3, by rfl, by simp [Value.cells, Value.oneCell']⟩
        obtain ⟨W2, hW2⟩ : ∃ W2, W2 = wr.setCells g i (Builtin.zeroCells zv.cells (n - i)).toList := ⟨_, rfl⟩
        have hcells : ∀ t, t < n → (wr.cell? ⟨g, t, none⟩).isSome = true ∧ wr.frozen? ⟨g, t, none⟩ = false := by
          intro t ht
          refine ⟨?_, hR.free t⟩
          have := hR.cell encI_ok.len (List.getElem?_eq_getElem (l := ys) (i := t) (by rw [← hyl.out]; exact ht)) 0 (by omega)
          rw [Nat.mul_one, Nat.add_zero] at this
          rw [this]; rfl
        have hcl : ∀ ty c, (Builtin.clear_ #[54] ty #[.slice (some ⟨g, i, none⟩) (n - i) c]).run Try.prog wr = .ok (.tuple #[]) W2 := by
          intro ty c
          have := run_clear_k (P := Try.prog) wr 54 3 ty zv 1 Try.underlying54 hz0 hz1 hz2 g i (n - i) c (by omega) (fun j hj => (hcells _ (by omega)).1) (fun j hj => (hcells _ (by omega)).2)
          rw [hW2, ← this]
        have hT := hR.take encI_ok.len (m := i) (by rw [← hyl.out]; omega)
        rw [hfin] at hT
        have hR2 : RI W2 (.slice (some ⟨g, 0, none⟩) i cap) (xs.filter fun x => !p x) := by rw [hW2]; exact hT.spoilt encI_ok.len _ _ (by omega)
        have hE2 : Ext [g] w W2 := by rw [hW2]; exact Ext.setCells (Or.inl (by simp)) _ _ _ hex
        have HR2 := Lib.hid hR2; have HE2 := Lib.hid hE2
        have b5 : i ≤ n := by omega
        have b6 : i ≤ cap := by omega
        have b7 : ¬ cap = i := by omega
        clear hR2 hE2 hT hcells hW2 hfin hR hex hyt hyl hyd hz0 hz1 hz2
        go_wp2_with fail
        refine bodyPost_ret (v := .slice (some ⟨g, 0, none⟩) i cap) (by simp [results, Try.results65, go_sem]) rfl ?_
        exact ⟨_, i, cap, rfl, HR2.out, rfl, HE2.out⟩
end Go.Proofs.Ytkbjpackijdnkaa
