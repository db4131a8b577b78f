/- slices.ContainsFunc and DeleteFunc at the cache's row. -/
import Derived.Test.YtkbjpackijdnkaaEnLib
namespace Go.Proofs.Ytkbjpackijdnkaa
open Go.RowKit
set_option linter.unusedVariables false
set_option linter.unusedSimpArgs false

/-- A store of a struct into the midst of a block, at a plain region. -/
theorem wpList_store_mid {P : Program} {ops : Array Oper} {rest : List Oper} {o : Oper} {a : Act} {w : World} {Q : Exit → Act → World → Prop} (hN : o.dst = none) (hgd : o.guard = none)
    (ty : TypeId) (x y : Operand) (ho : o.op = .store ty x y) (b off : Nat) (cells : Array Value) (hx : a.eval x = .pointer (some ⟨b, off, none⟩)) (hy : a.eval y = .agg cells)
    (ht : w.there b off cells.size) (hi : (P.info? ty).map (·.size) = some cells.size) (h1 : cells.all (·.oneCell') = true)
    (h : wpList P ops Q rest a (w.setCells b off cells.toList)) : wpList P ops Q (o :: rest) a w := by
  refine wpList_plain hgd fun K hK => ?_
  refine wp_store_mid ty x y ho b off cells hx hy ht hi h1 ?_
  rw [hN]
  exact hK _ _ h

theorem info_ent : (Try.prog.info? 35).map (·.size) = some 6 := by
  have h : Try.prog.info? 35 = some Try.t35 := by kernel_rfl
  rw [h]; rfl

set_option maxHeartbeats 800000 in
theorem ent_containsFunc (p : Ent → Bool) (g : Nat) (lb : Array Value) (eg : ∀ args w, (callFunc g args).run Try.prog w = .ok (.enter g args) w)
    (v : Value) (xs : List Ent) (hx : xs.length < 1000000) (w : World) (h : Rw encE 6 35 w v xs) (hp : PredE Try.prog g lb encE p w) :
    Calls Try.prog 75 #[v, .func (.func g) #[] lb] w fun e w' => e = .returned (.bool (xs.any p)) ∧ Ext [] w w' := by
  have hi := ent_indexFunc encE encE_ok.len p g lb eg v xs hx w h hp
  rcases idxI_spec p xs with ⟨h1, h2⟩ | ⟨i, x, h1, h2, h3, h4⟩
  · rw [h1] at hi
    have hA : xs.any p = false := by rw [List.any_eq_false]; intro x hx; simp [h2 x hx]
    have HA := Lib.hid hA
    have HI := Lib.hid hi
    clear h1 h2 hA hi h hp hx
    go_enter Try.func75, Try.ntmps75
    go_wp2_with fail
    refine HI.out.mono ?_
    rintro e w1 ⟨rfl, e1⟩
    go_wp2_with fail
    go_ret
    exact ⟨ret_bool HA.out, e1⟩
  · rw [h4] at hi
    have hA : xs.any p = true := by rw [List.any_eq_true]; exact ⟨x, List.mem_of_getElem? h1, h2⟩
    have HA := Lib.hid hA
    have HI := Lib.hid hi
    clear h1 h2 h3 h4 hA hi h hp hx
    go_enter Try.func75, Try.ntmps75
    go_wp2_with fail
    refine HI.out.mono ?_
    rintro e w1 ⟨rfl, e1⟩
    go_wp2_with fail
    go_ret
    exact ⟨ret_bool HA.out, e1⟩

/-- What a row is told behind a DeleteFunc. -/
def DelF (p : Ent → Bool) (v : Value) (xs : List Ent) (w : World) (e : Ending) (w' : World) : Prop :=
  ∃ (a : Option Addr) (m c : Nat), e = .returned (.slice a m c) ∧ Rw encE 6 35 w' (.slice a m c) (xs.filter fun x => !p x) ∧ (Value.slice a m c).ownBlock = v.ownBlock ∧ Ext v.ownBlock.toList w w'

theorem filter_step {p : Ent → Bool} {xs : List Ent} {j : Nat} {x : Ent} (hx : xs[j]? = some x) : (xs.take (j + 1)).filter p = (xs.take j).filter p ++ (if p x then [x] else []) := by
  rw [List.take_add_one, hx, List.filter_append]
  cases h : p x <;> simp [h]

set_option maxHeartbeats 3200000 in
set_option maxRecDepth 100000 in
theorem ent_deleteFunc (p : Ent → Bool) (gf : Nat) (lb : Array Value) (eg : ∀ args w, (callFunc gf args).run Try.prog w = .ok (.enter gf args) w)
    (v : Value) (xs : List Ent) (hx : xs.length < 1000000) (w : World) (h : Rw encE 6 35 w v xs) (hp : ∀ W, Ext v.ownBlock.toList w W → PredE Try.prog gf lb encE p W) :
    Calls Try.prog 74 #[v, .func (.func gf) #[] lb] w (DelF p v xs w) := by
  have hi := ent_indexFunc encE encE_ok.len p gf lb eg v xs hx w h (hp w (Ext.refl _ _))
  rcases idxI_spec p xs with ⟨h1, h2⟩ | ⟨i0, x0, h1, h2, h3, h4⟩
  · rw [h1] at hi
    have hA : (xs.filter fun x => !p x) = xs := by rw [List.filter_eq_self]; intro x hx; simp [h2 x hx]
    have HA := Lib.hid hA
    have HI := Lib.hid hi
    obtain ⟨a, cap, rfl⟩ := h.val
    obtain ⟨n, hn⟩ : ∃ n, n = xs.length := ⟨_, rfl⟩
    rw [← hn] at h HI ⊢
    have HH := Lib.hid h
    clear h1 h2 hA hi h hp hx hn
    go_enter Try.func74, Try.ntmps74
    go_wp2_with fail
    refine HI.out.mono ?_
    rintro e w1 ⟨rfl, e1⟩
    go_wp2_with fail
    refine bodyPost_ret (v := .slice a n cap) (by simp [results, Try.results74, go_sem]) rfl ?_
    unfold DelF
    rw [HA.out]
    exact ⟨a, n, cap, rfl, HH.out.keep e1 (by simp), rfl, e1.mono (by simp)⟩
  · rw [h4] at hi
    have hi0 := (List.getElem?_eq_some_iff.1 h1).1
    obtain ⟨a, cap, rfl⟩ := h.val
    obtain ⟨n, hn⟩ : ∃ n, n = xs.length := ⟨_, rfl⟩
    rw [← hn] at h hi hp hi0 hx ⊢
    obtain ⟨g, rfl, hgl⟩ := h.addr (by omega)
    have hcap := h.cap_le
    have hst : xs.take i0 = (xs.take (i0 + 1)).filter fun x => !p x := by
      rw [filter_step h1, h2]
      simp only [Bool.not_true, Bool.false_eq_true, if_false, List.append_nil]
      symm
      rw [List.filter_eq_self]
      intro x hx
      obtain ⟨k, hk, rfl⟩ := List.mem_iff_getElem.1 hx
      have hkl : k < i0 := by rw [List.length_take] at hk; omega
      have := h3 k _ hkl (List.getElem?_eq_getElem (by omega))
      rw [List.getElem_take, this]; rfl
    have HN := Lib.hid hn; have HI := Lib.hid hi; have HP := Lib.hid hp; have HH := Lib.hid h; have HST := Lib.hid hst
    have hne : ((i0 : Int) == -1) = false := by rw [beq_eq_false_iff_ne]; omega
    have ho : (Value.slice (some ⟨g, 0, none⟩) n cap).ownBlock = some g := rfl
    clear h1 h2 h3 h4 hi h hp hn hst
    go_enter Try.func74, Try.ntmps74
    go_wp2_with fail
    refine HI.out.mono ?_
    rintro e w1 ⟨rfl, e1⟩
    go_wp2_with fail
    go_loopw [5, 6] (fun iv jv wr => ∃ (i j : Nat) (ys : List Ent), i < j ∧ j ≤ n ∧ iv = .int .i64 i ∧ jv = .int .i64 j ∧ Rw encE 6 35 wr (.slice (some ⟨g, 0, none⟩) n cap) ys ∧ Ext [g] w wr ∧ Hid (n = ys.length) ∧ Hid (ys.take i = (xs.take j).filter fun x => !p x) ∧ Hid (ys.drop j = xs.drop j)) (fun _ jv _ => n - (intOf jv).toNat)
    case atStart => exact ⟨i0, i0 + 1, xs, Nat.lt_succ_self _, by omega, rfl, by go_num, HH.out.keep e1 (by simp), e1.mono (by simp), HN.out, HST.out, rfl⟩
    case round =>
      obtain ⟨i, j, ys, hij, hjn, rfl, rfl, hR, hex, hyl, hyt, hyd⟩ := hrel
      by_cases hj : j < n
      · have d1 : decide (j < n) = true := decide_eq_true hj
        obtain ⟨x, hxj⟩ : ∃ x, xs[j]? = some x := ⟨_, List.getElem?_eq_getElem (by rw [← HN.out]; exact hj)⟩
        have hyj : ys[j]? = some x := by
          have h8 := congrArg (fun l => l[0]?) hyd.out
          simp only [List.getElem?_drop, Nat.add_zero] at h8
          rw [h8, hxj]
        have l0 := hR.cell encE_ok.len hyj 0 (by omega); have l1 := hR.cell encE_ok.len hyj 1 (by omega); have l2 := hR.cell encE_ok.len hyj 2 (by omega)
        have l3 := hR.cell encE_ok.len hyj 3 (by omega); have l4 := hR.cell encE_ok.len hyj 4 (by omega); have l5 := hR.cell encE_ok.len hyj 5 (by omega)
        simp only [encE, Nat.add_zero, List.getElem?_cons_zero, List.getElem?_cons_succ] at l0 l1 l2 l3 l4 l5
        have b1 : (0 : Int) ≤ (j : Int) := by omega
        have b2 : (j : Int) < (n : Int) := by omega
        have b3 : (0 : Int) ≤ (i : Int) := by omega
        have b4 : (i : Int) < (n : Int) := by omega
        have hbn : Blk (wr.alloc (.cells (encE x).toArray 35 (0, 0))) wr.heap.size (encE x).toArray 35 := Blk.new _ _ _
        have hcall := HP.out (wr.alloc (.cells (encE x).toArray 35 (0, 0))) (by rw [ho]; exact hex.alloc _) _ x (Ext.refl _ _)
        have hyd2 : ys.drop (j + 1) = xs.drop (j + 1) := by
          have := congrArg (List.drop 1) hyd.out
          simpa [List.drop_drop, Nat.add_comm] using this
        have hfs := filter_step (p := fun x => !p x) hxj
        have hgw := hex.size
        have HYD2 := Lib.hid hyd2; have HFS := Lib.hid hfs; have HB := Lib.hid hbn; have HR := Lib.hid (hR.alloc (.cells (encE x).toArray 35 (0, 0))); have HEX := Lib.hid hex
        have hgl2 : g < wr.heap.size := by omega
        clear hxj hyj hyd2 hfs hbn hR hex hyd
        cases hq : p x with
        | true =>
          rw [hq] at hcall HFS
          go_wp2_with (go_at_fn gf; refine hcall.mono ?_; rintro e w' ⟨rfl, hb'⟩)
          refine ⟨⟨i, j + 1, ys, by omega, by omega, rfl, by go_num, HR.out.keep hb' (by simp), (HEX.out.alloc _).trans hb' (by simp), hyl, ?_, HYD2.out⟩, by simp [intOf]; omega⟩
          show _ = _
          rw [HFS.out, hyt.out]; simp
        | false =>
          rw [hq] at hcall HFS
          have HC := Lib.hid hcall
          clear hcall
          unfold encE at HC
          go_wp2_with fail
          refine HC.out.mono ?_
          rintro e w4 ⟨rfl, hb'⟩
          have hB4 := HB.out.keep hb' (by simp)
          have m0 : w4.cell? ⟨wr.heap.size, 0, none⟩ = some (.string x.org) := hB4.cell 0
          have m1 : w4.cell? ⟨wr.heap.size, 1, none⟩ = some (.string x.url) := hB4.cell 1
          have m2 : w4.cell? ⟨wr.heap.size, 2, none⟩ = some (.bool x.creds) := hB4.cell 2
          have m3 : w4.cell? ⟨wr.heap.size, 3, none⟩ = some (.string x.meth) := hB4.cell 3
          have m4 : w4.cell? ⟨wr.heap.size, 4, none⟩ = some (.string x.head) := hB4.cell 4
          have m5 : w4.cell? ⟨wr.heap.size, 5, none⟩ = some (.int .u64 x.til) := hB4.cell 5
          have hR4 := HR.out.keep hb' (by simp)
          have hE4 := (HEX.out.alloc (.cells (encE x).toArray 35 (0, 0))).trans hb' (by simp)
          have hil : i < ys.length := by rw [← hyl.out]; omega
          have ht := hR4.there encE_ok.len hil
          have hput := hR4.put encE_ok.len hil x
          have hEp : Ext [g] w (w4.setCells g (i * 6) (encE x)) := Ext.setCells (Or.inl (by simp)) _ _ _ hE4
          have HIL := Lib.hid hil
          have HPUT := Lib.hid hput; have HEP := Lib.hid hEp
          unfold encE at HPUT HEP
          clear hput hEp hR4 hE4 hB4 hil
          have hone : (#[Value.string x.org, .string x.url, .bool x.creds, .string x.meth, .string x.head, .int .u64 x.til].all (·.oneCell')) = true := by simp [Value.oneCell']
          go_wp2_with (refine wpList_store_mid ?_ ?_ 35 (.tmp 33) (.tmp 32) ?_ g (i * 6) #[.string x.org, .string x.url, .bool x.creds, .string x.meth, .string x.head, .int .u64 x.til] ?_ ?_ ht info_ent hone ?_; exact rfl; exact rfl; exact rfl; exact rfl; exact rfl; generalize hW5 : World.setCells w4 g (i * 6) _ = w5)
          have hW6 : World.setCells w4 g (i * 6) [.string x.org, .string x.url, .bool x.creds, .string x.meth, .string x.head, .int .u64 x.til] = w5 := hW5
          rw [hW6] at HPUT HEP
          clear hW5 hW6 ht hone m0 m1 m2 m3 m4 m5 HC l0 l1 l2 l3 l4 l5
          go_wp2_with fail
          refine ⟨⟨i + 1, j + 1, ys.set i x, by omega, by omega, by go_num, by go_num, HPUT.out, HEP.out, ?_, ?_, ?_⟩, by simp [intOf]; omega⟩
          · show _ = _
            rw [List.length_set]; exact hyl.out
          · show _ = _
            rw [HFS.out, ← hyt.out, List.take_add_one, List.getElem?_set, if_pos rfl, if_pos HIL.out, List.take_set_of_le (Nat.le_refl _)]
            simp
          · show _ = _
            rw [← HYD2.out, List.drop_set, if_pos (by omega)]
      · have d1 : decide (j < n) = false := decide_eq_false hj
        have hfin : ys.take i = xs.filter fun x => !p x := by
          rw [hyt.out, List.take_of_length_le (by rw [← HN.out]; omega)]
        have hin : i < n := by omega
        obtain ⟨zv, hz0, hz1, hz2⟩ : ∃ zv, (∀ w, (zeroValue 35).run Try.prog w = .ok zv w) ∧ zv.cells.size = 6 ∧ ∀ u ∈ zv.cells, u.oneCell' = true := ⟨_, Try.zeroValue35, by rfl, by simp [Value.cells, Value.oneCell']⟩
        obtain ⟨W2, hW2⟩ : ∃ W2, W2 = wr.setCells g (i * 6) (Builtin.zeroCells zv.cells (n - i)).toList := ⟨_, rfl⟩
        have hcells : ∀ t, t < n * 6 → (wr.cell? ⟨g, t, none⟩).isSome = true ∧ wr.frozen? ⟨g, t, none⟩ = false := by
          intro t ht
          refine ⟨?_, hR.free t⟩
          have hfl : (ys.flatMap encE).length = n * 6 := by rw [flat_len encE_ok.len, hyl.out]
          have h' := hR
          rw [hyl.out] at h'
          rw [World.ownsRow.cellAt h' t (by rw [← hyl.out]; exact ht), List.getElem?_eq_getElem (by omega)]; rfl
        have hcl : ∀ ty c, (Builtin.clear_ #[29] ty #[.slice (some ⟨g, i * 6, none⟩) (n - i) c]).run Try.prog wr = .ok (.tuple #[]) W2 := by
          intro ty c
          have := run_clear_k (P := Try.prog) wr 29 35 ty zv 6 Try.underlying29 hz0 hz1 hz2 g (i * 6) (n - i) c (by omega) (fun j hj => (hcells _ (by omega)).1) (fun j hj => (hcells _ (by omega)).2)
          rw [hW2, ← this]
        have hT := hR.take encE_ok.len (m := i) (by rw [← hyl.out]; omega)
        rw [hfin] at hT
        have hR2 : Rw encE 6 35 W2 (.slice (some ⟨g, 0, none⟩) i cap) (xs.filter fun x => !p x) := by rw [hW2]; exact hT.spoilt encE_ok.len _ _ (Nat.le_refl _)
        have hE2 : Ext [g] w W2 := by rw [hW2]; exact Ext.setCells (Or.inl (by simp)) _ _ _ hex
        have HR2 := Lib.hid hR2; have HE2 := Lib.hid hE2
        have b5 : i ≤ n := by omega
        have b6 : i ≤ cap := by omega
        have b7 : ¬ cap = i := by omega
        clear hR2 hE2 hT hcells hW2 hfin hR hex hyt hyl hyd hz0 hz1 hz2
        go_wp2_with fail
        refine bodyPost_ret (v := .slice (some ⟨g, 0, none⟩) i cap) (by simp [results, Try.results74, go_sem]) rfl ?_
        exact ⟨_, i, cap, rfl, HR2.out, rfl, HE2.out⟩
end Go.Proofs.Ytkbjpackijdnkaa
