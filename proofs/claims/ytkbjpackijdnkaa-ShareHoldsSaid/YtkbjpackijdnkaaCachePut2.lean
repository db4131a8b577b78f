/- The cache: Put, by contract. -/
import Derived.Test.YtkbjpackijdnkaaCachePut
namespace Go.Proofs.Ytkbjpackijdnkaa
open Go.RowKit Go.Proofs.YtkbjpackijdnkaaW.PrintLast
set_option linter.unusedVariables false
set_option linter.unusedSimpArgs false

def PutP (most : Int) (b : Nat) (S : List Nat) (a : Ent) (now : Int) (xs : List Ent) (w : World) (e : Ending) (w' : World) : Prop :=
  e = .returned (.bool (putM most a now xs).1) ∧ Chg (fun w' S' => CO most w' b S' (putM most a now xs).2) S w w'

set_option maxHeartbeats 6400000 in
set_option maxRecDepth 100000 in
theorem co_put (most : Int) (b : Nat) (S : List Nat) (xs : List Ent) (a : Ent) (now : Int) (hx : xs.length < 10000) (hmo : 1 ≤ most) (w : World) (h : CO most w b S xs) :
    Calls Try.prog 16 #[.pointer (some ⟨b, 0, none⟩), .agg (encE a).toArray, .int .u64 now] w (PutP most b S a now xs w) := by
  unfold PutP
  have hb : badE a now = ((a.meth.toList.isEmpty == a.head.toList.isEmpty) || decide (a.til ≤ now)) := by
    have hz : ∀ z : ByteArray, decide (z = emp) = z.toList.isEmpty := fun z => by
      rw [← bytes_beq, show emp.toList = [] by rw [ByteArray.toList_eq]; rfl]
      cases z.toList <;> rfl
    unfold badE; rw [hz, hz]
  have hM1 : badE a now = true → putM most a now xs = (false, xs) := fun hq => by unfold putM; rw [if_pos hq]
  have hM2 : badE a now = false → putM most a now xs = (true, putY most a (sweepL now xs)) := fun hq => by unfold putM; rw [if_neg (by rw [hq]; decide)]
  cases e1 : (a.meth.toList.isEmpty == a.head.toList.isEmpty) with
  | true =>
    rw [e1] at hb
    have HM := Lib.hid (hM1 (by rw [hb]; rfl)); have HH := Lib.hid h
    clear hM1 hM2 h hx hb
    unfold encE
    go_enter Try.func16, Try.ntmps16
    go_wp2_with fail
    go_ret
    exact ⟨ret_bool (by rw [HM.out]), S, by rw [HM.out]; exact HH.out.keep0 ((Ext.refl _ _).alloc _), ((Ext.refl [] w).alloc _).mono (by simp), fun x hx => .inl hx⟩
  | false =>
    cases e2 : decide (a.til ≤ now) with
    | true =>
      rw [e1, e2] at hb
      have HM := Lib.hid (hM1 (by rw [hb]; rfl)); have HH := Lib.hid h
      clear hM1 hM2 h hx hb
      unfold encE
      go_enter Try.func16, Try.ntmps16
      go_wp2_with fail
      go_ret
      exact ⟨ret_bool (by rw [HM.out]), S, by rw [HM.out]; exact HH.out.keep0 ((Ext.refl _ _).alloc _), ((Ext.refl [] w).alloc _).mono (by simp), fun x hx => .inl hx⟩
    | false =>
      rw [e1, e2] at hb
      have HM := Lib.hid (hM2 (by rw [hb]; rfl))
      obtain ⟨ys, hys⟩ : ∃ ys, ys = sweepL now xs := ⟨_, rfl⟩
      have hyl : ys.length ≤ xs.length := by rw [hys]; exact List.length_filter_le _ _
      have hsw := co_sweep most b S xs now (by omega) (w.alloc (.cells (encE a).toArray 35 (0, 0))) (h.keep0 ((Ext.refl _ _).alloc _))
      unfold DropP at hsw
      change Calls _ _ _ _ fun e w' => e = .returned (.int .i64 ((xs.length : Int) - ((sweepL now xs).length : Int))) ∧ CO most w' b S (sweepL now xs) ∧ _ at hsw
      rw [← hys] at HM hsw
      have hlt := h.lt
      have hbB : ∀ x ∈ S, x ≠ w.heap.size := fun x hx => by have := hlt x hx; omega
      have hB : Blk (w.alloc (.cells (encE a).toArray 35 (0, 0))) w.heap.size (encE a).toArray 35 := Blk.new _ _ _
      have e0 : Ext [] w (w.alloc (.cells (encE a).toArray 35 (0, 0))) := (Ext.refl _ _).alloc _
      have HSW := Lib.hid hsw; have HB := Lib.hid hB; have HbB := Lib.hid hbB; have E0 := Lib.hid e0
      clear hM1 hM2 hb hsw hB hbB hlt hys e0 h
      unfold encE at HSW HB E0 ⊢
      go_enter Try.func16, Try.ntmps16
      go_wp2_with fail
      refine HSW.out.mono ?_
      rintro e w1 ⟨rfl, h1, x1⟩
      have x1 := x1
      have hB1 := HB.out.keep x1 (fun hm => HbB.out _ hm rfl)
      obtain ⟨B, hBe⟩ : ∃ B, B = w.heap.size := ⟨_, rfl⟩
      have hx1 : Ext S w w1 := (E0.out.mono (by simp)).trans x1 (fun x hx => .inl hx)
      have hsz0 := E0.out.size
      rw [← hBe] at hB1 HbB ⊢
      clear HSW HB E0 x1 hsz0
      obtain ⟨v, hT, hS⟩ := h1
      have eg := enters_of Try.func51 (by kernel_rfl) rfl
      have hif := ent_indexFunc encE encE_ok.len (fun x => sameE x a) _ _ eg _ ys (by omega) w1 hT.row (isSame B a w1 hB1)
      obtain ⟨va, cap, rfl⟩ := hT.row.val
      obtain ⟨n, hn⟩ : ∃ n, n = ys.length := ⟨_, rfl⟩
      rw [← hn] at hT hyl hif hS ⊢
      have HS := Lib.hid hS
      have hcv : w1.cell? ⟨b, 0, none⟩ = some (.slice va n cap) := hT.blk.cell 0
      have hlb := hT.blk.lt
      have HIF := Lib.hid hif; have HT := Lib.hid hT; have HB1 := Lib.hid hB1; have HX1 := Lib.hid hx1; have HN := Lib.hid hn
      have hvB : Hid (∀ y, (Value.slice va n cap).ownBlock = some y → y ≠ B) := fun y hy => HbB.out y (by rw [hS]; exact List.mem_cons_of_mem _ (by simpa using hy))
      have hbB : b ≠ B := HbB.out b (by rw [hS]; simp)
      have hwB : w.heap.size ≤ B := by omega
      clear hif hT hB1 hx1 hn eg hBe hS
      rcases idxI_spec (fun x => sameE x a) ys with ⟨h1, h2⟩ | ⟨i, x, h1, h2, h3, h4⟩
      rotate_left
      · rw [h4] at HIF
        have hP : putY most a ys = ys.set i { x with til := a.til } := by
          have hf : ys.findIdx? (fun x => sameE x a) = some i := by
            rw [List.findIdx?_eq_some_iff_getElem]
            have hi := (List.getElem?_eq_some_iff.1 h1).1
            refine ⟨hi, by rw [List.getElem?_eq_getElem hi] at h1; injection h1 with h1; rw [h1]; exact h2, fun j hj => ?_⟩
            have := h3 j _ hj (List.getElem?_eq_getElem (by omega))
            simpa using this
          unfold putY; rw [hf]
          simp only [h1, Option.getD_some]
        rw [hP] at HM
        have hin : i < n := by rw [HN.out]; exact (List.getElem?_eq_some_iff.1 h1).1
        have H1 := Lib.hid h1
        clear h1 h2 h3 h4 hP
        go_wp2_with fail
        refine HIF.out.mono ?_
        rintro e w2 ⟨rfl, e2⟩
        have hT2 := HT.out.keep e2 (by simp)
        have hB2 := HB1.out.keep e2 (by simp)
        obtain ⟨g, rfl, hgl⟩ := hT2.row.addr (by omega)
        have hcv2 : w2.cell? ⟨b, 0, none⟩ = some (.slice (some ⟨g, 0, none⟩) n cap) := hT2.blk.cell 0
        have k5 : w2.cell? ⟨B, 5, none⟩ = some (.int .u64 a.til) := hB2.cell 5
        have c5 := hT2.row.cell encE_ok.len H1.out 5 (by omega)
        simp only [encE, List.getElem?_cons_zero, List.getElem?_cons_succ] at c5
        have f5 := hT2.row.free (i * 6 + 5)
        have b1 : (0 : Int) ≤ (i : Int) := by omega
        have b2 : (i : Int) < (n : Int) := by omega
        have hput := hT2.row.put1 encE_ok.len (j := 5) (by omega) H1.out (.int .u64 a.til) { x with til := a.til } rfl
        have e3 : Ext [g] w2 (w2.setCell ⟨g, i * 6 + 5, none⟩ (.int .u64 a.til)).drew := ((Ext.refl [g] w2).setCell (Or.inl (by simp)) _).drew
        have hfin : CT most (w2.setCell ⟨g, i * 6 + 5, none⟩ (.int .u64 a.til)).drew b (.slice (some ⟨g, 0, none⟩) n cap) (ys.set i { x with til := a.til }) := ⟨hT2.blk_at rfl e3, hput.drew, hT2.ne⟩
        have HF := Lib.hid hfin
        have hSS : ∀ x, x ∈ b :: (Value.slice (some ⟨g, 0, none⟩) n cap).ownBlock.toList → x ∈ S := fun x hx => by rw [HS.out]; exact hx
        have HSS := Lib.hid hSS
        have hex := (HX1.out.trans e2 (by simp)).trans e3 (fun x hx => .inl (hSS x (List.mem_cons_of_mem _ (by simpa [Value.ownBlock] using hx))))
        have HEX := Lib.hid hex
        clear hT2 hB2 hput e3 hfin hex HT HB1 HX1 HIF hSS
        go_wp2_with fail
        refine start_ (n := 10) (S := fun w' => w'.cell? ⟨b, 0, none⟩ = some (.slice (some ⟨g, 0, none⟩) n cap) ∧ w'.cell? ⟨B, 5, none⟩ = some (.int .u64 a.til) ∧ (0 : Int) ≤ (i : Int) ∧ (i : Int) < (n : Int)) (ds := [9]) #[false, false, false, false, false, false, false, false, false, false] (by kernel_rfl) rfl rfl ⟨hcv2, k5, b1, b2⟩ (fun hHeld => ?_)
        refine pure_ (i := 0) (N := some 37) (v := ?_) (a' := ?_) #[true, false, false, false, false, false, false, false, false, false] rfl rfl (by kernel_rfl) (fun _ _ _ h => h) (Or.inl ⟨by rfl, ?_⟩) ?_ ?_
        rotate_left
        · intro w'
          go_simp
          with_reducible rfl
        rotate_left
        · simp only [Act.put, List.setIfInBounds_toArray, List.set_cons_zero, List.set_cons_succ, i64_w, i32_w]
          rfl
        refine pure_ (i := 1) (N := some 38) (v := ?_) (a' := ?_) #[true, true, false, false, false, false, false, false, false, false] rfl rfl (by kernel_rfl) (fun _ _ _ h => h) (Or.inl ⟨by rfl, ?_⟩) ?_ ?_
        rotate_left
        · intro w'
          go_simp
          with_reducible rfl
        rotate_left
        · simp only [Act.put, List.setIfInBounds_toArray, List.set_cons_zero, List.set_cons_succ, i64_w, i32_w]
          rfl
        refine pure_ (i := 2) (N := some 39) (v := ?_) (a' := ?_) #[true, true, true, false, false, false, false, false, false, false] rfl rfl (by kernel_rfl) (fun _ _ _ h => h) (Or.inl ⟨by rfl, ?_⟩) ?_ ?_
        rotate_left
        · intro w'
          go_simp
          with_reducible rfl
        rotate_left
        · simp only [Act.put, List.setIfInBounds_toArray, List.set_cons_zero, List.set_cons_succ, i64_w, i32_w]
          rfl
        refine pure_ (i := 4) (N := some 41) (v := ?_) (a' := ?_) #[true, true, true, false, true, false, false, false, false, false] rfl rfl (by kernel_rfl) (fun _ _ _ h => h) (Or.inl ⟨by rfl, ?_⟩) ?_ ?_
        rotate_left
        · intro w'
          go_simp
          with_reducible rfl
        rotate_left
        · simp only [Act.put, List.setIfInBounds_toArray, List.set_cons_zero, List.set_cons_succ, i64_w, i32_w]
          rfl
        refine pure_ (i := 5) (N := some 42) (v := ?_) (a' := ?_) #[true, true, true, false, true, true, false, false, false, false] rfl rfl (by kernel_rfl) (fun _ _ _ h => h) (Or.inl ⟨by rfl, ?_⟩) ?_ ?_
        rotate_left
        · intro w'
          go_simp
          with_reducible rfl
        rotate_left
        · simp only [Act.put, List.setIfInBounds_toArray, List.set_cons_zero, List.set_cons_succ, i64_w, i32_w]
          rfl
        refine take_ (i := 3) (N := some 40) (v := ?_) (a' := ?_) #[true, true, true, true, true, true, false, false, false, false] rfl rfl (by kernel_rfl) (fun _ _ _ h => h) (Or.inl ⟨by rfl, ?_⟩) hHeld ?_ ?_
        rotate_left
        · rintro w' ⟨s0, s1, s2, s3⟩
          go_simp
          with_reducible rfl
        rotate_left
        · simp only [Act.put, List.setIfInBounds_toArray, List.set_cons_zero, List.set_cons_succ, i64_w, i32_w]
          rfl
        refine take_ (i := 6) (N := some 43) (v := ?_) (a' := ?_) #[true, true, true, true, true, true, true, false, false, false] rfl rfl (by kernel_rfl) (fun _ _ _ h => h) (Or.inl ⟨by rfl, ?_⟩) hHeld ?_ ?_
        rotate_left
        · rintro w' ⟨s0, s1, s2, s3⟩
          go_simp
          with_reducible rfl
        rotate_left
        · simp only [Act.put, List.setIfInBounds_toArray, List.set_cons_zero, List.set_cons_succ, i64_w, i32_w]
          rfl
        refine pure_ (i := 7) (N := some 44) (v := ?_) (a' := ?_) #[true, true, true, true, true, true, true, true, false, false] rfl rfl (by kernel_rfl) (fun _ _ _ h => h) (Or.inl ⟨by rfl, ?_⟩) ?_ ?_
        rotate_left
        · intro w'
          go_simp
          with_reducible rfl
        rotate_left
        · simp only [Act.put, List.setIfInBounds_toArray, List.set_cons_zero, List.set_cons_succ, i64_w, i32_w]
          rfl
        refine pure_ (i := 8) (N := some 45) (v := ?_) (a' := ?_) #[true, true, true, true, true, true, true, true, true, false] rfl rfl (by kernel_rfl) (fun _ _ _ h => h) (Or.inl ⟨by rfl, ?_⟩) ?_ ?_
        rotate_left
        · intro w'
          go_simp
          with_reducible rfl
        rotate_left
        · simp only [Act.put, List.setIfInBounds_toArray, List.set_cons_zero, List.set_cons_succ, i64_w, i32_w]
          rfl
        refine last_ (i := 9) (N := none) #[true, true, true, true, true, true, true, true, true, true] rfl rfl (by kernel_rfl) (by decide) (fun K hK => ?_)
        refine skip_ (w1 := ?_) (by rfl) rfl ?_ ?_
        rotate_left
        · go_simp
          rfl
        refine hK.out _ _ ?_
        clear hK K
        refine done_ (by kernel_rfl) ?_
        go_wp2_with fail
        refine bodyPost_ret (v := .bool true) (by simp [results, Try.results16, go_sem]) rfl ?_
        exact ⟨by rw [HM.out], _, ⟨.slice (some ⟨g, 0, none⟩) n cap, by rw [HM.out]; exact HF.out, rfl⟩, HEX.out, fun x hx => .inl (HSS.out x hx)⟩
      · rw [h1] at HIF
        have hP : putY most a ys = (if most ≤ (ys.length : Int) then ys.eraseIdx (eldM ys) else ys) ++ [a] := by
          have hf : ys.findIdx? (fun x => sameE x a) = none := by rw [List.findIdx?_eq_none_iff]; exact h2
          unfold putY; rw [hf]
        rw [hP, ← HN.out] at HM
        clear h1 h2 hP
        by_cases hm : most ≤ (n : Int)
        · rw [if_pos hm] at HM
          have d1 : decide (most ≤ (n : Int)) = true := decide_eq_true hm
          by_cases hn0 : 0 < n
          rotate_left
          · exact absurd hn0 (by have := hmo; omega)
          go_wp2_with fail
          refine HIF.out.mono ?_
          rintro e w2 ⟨rfl, e2⟩
          have hT2 := HT.out.keep e2 (by simp)
          have hB2 := HB1.out.keep e2 (by simp)
          obtain ⟨g, rfl, hgl⟩ := hT2.row.addr hn0
          have hcv2 : w2.cell? ⟨b, 0, none⟩ = some (.slice (some ⟨g, 0, none⟩) n cap) := hT2.blk.cell 0
          have hcm2 : w2.cell? ⟨b, 1, none⟩ = some (.int .i64 most) := hT2.blk.cell 1
          have hex2 := HX1.out.trans e2 (by simp)
          have hld := eldest_any most b _ ys (by rw [← HN.out]; omega) w2.drew ⟨hT2.blk.drew, hT2.row.drew, hT2.ne⟩
          have hel : eldM ys < n := by unfold eldM; rw [← HN.out]; exact eldA_lt hn0
          generalize eldM ys = q at hld hel HM
          have HT2 := Lib.hid hT2; have HB2 := Lib.hid hB2; have HEX2 := Lib.hid hex2; have HLD := Lib.hid hld
          clear hT2 hB2 hex2 HT HB1 HX1 HIF e2 hld
          go_wp2_with fail
          refine start_ (n := 10) (S := fun w' => w'.cell? ⟨b, 0, none⟩ = some (.slice (some ⟨g, 0, none⟩) n cap) ∧ w'.cell? ⟨b, 1, none⟩ = some (.int .i64 most)) (ds := []) #[false, false, false, false, false, false, false, false, false, false] (by kernel_rfl) rfl rfl ⟨hcv2, hcm2⟩ (fun hHeld => ?_)
          refine pure_ (i := 0) (N := some 46) (v := ?_) (a' := ?_) #[true, false, false, false, false, false, false, false, false, false] rfl rfl (by kernel_rfl) (fun _ _ _ h => h) (Or.inl ⟨by rfl, ?_⟩) ?_ ?_
          rotate_left
          · intro w'
            go_simp
            with_reducible rfl
          rotate_left
          · simp only [Act.put, List.setIfInBounds_toArray, List.set_cons_zero, List.set_cons_succ, i64_w, i32_w]
            rfl
          refine pure_ (i := 1) (N := some 47) (v := ?_) (a' := ?_) #[true, true, false, false, false, false, false, false, false, false] rfl rfl (by kernel_rfl) (fun _ _ _ h => h) (Or.inl ⟨by rfl, ?_⟩) ?_ ?_
          rotate_left
          · intro w'
            go_simp
            with_reducible rfl
          rotate_left
          · simp only [Act.put, List.setIfInBounds_toArray, List.set_cons_zero, List.set_cons_succ, i64_w, i32_w]
            rfl
          refine pure_ (i := 2) (N := some 48) (v := ?_) (a' := ?_) #[true, true, true, false, false, false, false, false, false, false] rfl rfl (by kernel_rfl) (fun _ _ _ h => h) (Or.inl ⟨by rfl, ?_⟩) ?_ ?_
          rotate_left
          · intro w'
            go_simp
            with_reducible rfl
          rotate_left
          · simp only [Act.put, List.setIfInBounds_toArray, List.set_cons_zero, List.set_cons_succ, i64_w, i32_w]
            rfl
          refine pure_ (i := 5) (N := some 51) (v := ?_) (a' := ?_) #[true, true, true, false, false, true, false, false, false, false] rfl rfl (by kernel_rfl) (fun _ _ _ h => h) (Or.inl ⟨by rfl, ?_⟩) ?_ ?_
          rotate_left
          · intro w'
            go_simp
            with_reducible rfl
          rotate_left
          · simp only [Act.put, List.setIfInBounds_toArray, List.set_cons_zero, List.set_cons_succ, i64_w, i32_w]
            rfl
          refine pure_ (i := 6) (N := some 52) (v := ?_) (a' := ?_) #[true, true, true, false, false, true, true, false, false, false] rfl rfl (by kernel_rfl) (fun _ _ _ h => h) (Or.inl ⟨by rfl, ?_⟩) ?_ ?_
          rotate_left
          · intro w'
            go_simp
            with_reducible rfl
          rotate_left
          · simp only [Act.put, List.setIfInBounds_toArray, List.set_cons_zero, List.set_cons_succ, i64_w, i32_w]
            rfl
          refine pure_ (i := 7) (N := some 53) (v := ?_) (a' := ?_) #[true, true, true, false, false, true, true, true, false, false] rfl rfl (by kernel_rfl) (fun _ _ _ h => h) (Or.inl ⟨by rfl, ?_⟩) ?_ ?_
          rotate_left
          · intro w'
            go_simp
            with_reducible rfl
          rotate_left
          · simp only [Act.put, List.setIfInBounds_toArray, List.set_cons_zero, List.set_cons_succ, i64_w, i32_w]
            rfl
          refine take_ (i := 3) (N := some 49) (v := ?_) (a' := ?_) #[true, true, true, true, false, true, true, true, false, false] rfl rfl (by kernel_rfl) (fun _ _ _ h => h) (Or.inl ⟨by rfl, ?_⟩) hHeld ?_ ?_
          rotate_left
          · rintro w' ⟨s0, s1⟩
            go_simp
            with_reducible rfl
          rotate_left
          · simp only [Act.put, List.setIfInBounds_toArray, List.set_cons_zero, List.set_cons_succ, i64_w, i32_w]
            rfl
          refine pure_ (i := 4) (N := some 50) (v := ?_) (a' := ?_) #[true, true, true, true, true, true, true, true, false, false] rfl rfl (by kernel_rfl) (fun _ _ _ h => h) (Or.inl ⟨by rfl, ?_⟩) ?_ ?_
          rotate_left
          · intro w'
            go_simp
            with_reducible rfl
          rotate_left
          · simp only [Act.put, List.setIfInBounds_toArray, List.set_cons_zero, List.set_cons_succ, i64_w, i32_w]
            rfl
          refine take_ (i := 8) (N := some 54) (v := ?_) (a' := ?_) #[true, true, true, true, true, true, true, true, true, false] rfl rfl (by kernel_rfl) (fun _ _ _ h => h) (Or.inl ⟨by rfl, ?_⟩) hHeld ?_ ?_
          rotate_left
          · rintro w' ⟨s0, s1⟩
            go_simp
            with_reducible rfl
          rotate_left
          · simp only [Act.put, List.setIfInBounds_toArray, List.set_cons_zero, List.set_cons_succ, i64_w, i32_w]
            rfl
          refine pure_ (i := 9) (N := some 55) (v := ?_) (a' := ?_) #[true, true, true, true, true, true, true, true, true, true] rfl rfl (by kernel_rfl) (fun _ _ _ h => h) (Or.inl ⟨by rfl, ?_⟩) ?_ ?_
          rotate_left
          · intro w'
            go_simp
            with_reducible rfl
          rotate_left
          · simp only [Act.put, List.setIfInBounds_toArray, List.set_cons_zero, List.set_cons_succ, i64_w, i32_w]
            rfl
          refine done_ (by kernel_rfl) ?_
          go_wp2_with fail
          refine HLD.out.mono ?_
          rintro e w3 ⟨rfl, e3⟩
          have hT3 := (HT2.out.keep ((Ext.refl [] _).drew) (by simp)).keep e3 (by simp)
          have hB3 := (HB2.out.drew).keep e3 (by simp)
          have hex3 := (HEX2.out.drew).trans e3 (by simp)
          have hcv3 : w3.cell? ⟨b, 0, none⟩ = some (.slice (some ⟨g, 0, none⟩) n cap) := hT3.blk.cell 0
          have hdl := ent_delete encE encE_ok g n cap q ys hel (by omega) w3 hT3.row
          have b1 : (0 : Int) ≤ (q : Int) := by omega
          have HT3 := Lib.hid hT3; have HB3 := Lib.hid hB3; have HEX3 := Lib.hid hex3; have HDL := Lib.hid hdl
          clear hT3 hB3 hex3 hdl HT2 HB2 HEX2 HLD hcv2 hcm2 e3
          go_wp2_with fail
          refine HDL.out.mono ?_
          rintro e w4 ⟨rfl, hr4, e4⟩
          have hb4 := HT3.out.blk_at rfl e4
          have hcb : w4.cell? ⟨b, 0, none⟩ = some (.slice (some ⟨g, 0, none⟩) n cap) := hb4.cell 0
          have hfb : w4.frozen? ⟨b, 0, none⟩ = false := hb4.free 0
          have hfin := HT3.out.changed (v' := .slice (some ⟨g, 0, none⟩) (n - 1) cap) rfl rfl hr4 e4 0 (by simp)
          have hgB : g ≠ B := hvB.out g rfl
          have hB4 := (HB3.out.keep e4 (by simp; exact fun e => hgB e.symm)).set_ne (p := ⟨b, 0, none⟩) hbB (.slice (some ⟨g, 0, none⟩) (n - 1) cap)
          have hex4 := HEX3.out.trans hfin.2 (fun x hx => .inl (by rw [HS.out]; exact hx))
          have HF4 := Lib.hid hfin.1; have HB4 := Lib.hid hB4; have HEX4 := Lib.hid hex4
          clear hfin hB4 hex4 hr4 hb4 e4 HT3 HB3 HEX3 HDL hcv3
          go_wp2_with fail
          have hT := HF4.out; have hBq := HB4.out; have hE := HEX4.out
          generalize w4.setCell ⟨b, 0, none⟩ (.slice (some ⟨g, 0, none⟩) (n - 1) cap) = wq at hT hBq hE ⊢
          clear HF4 HB4 HEX4 hcb hfb
          generalize hzs : ys.eraseIdx q = zs at hT HM
          clear hzs
          have hm3n : n - 1 ≤ n := by omega
          have hm3l : Hid (n - 1 = zs.length) := hT.row.len
          have hm3 : (n - 1) < 100000 := by omega
          have h63 : (n - 1) + 1 ≤ 1000000 := by omega
          have hlen : LenIs zs [a] ((n - 1) + 1) := by unfold LenIs; rw [← hm3l.out]; rfl
          have HT := Lib.hid hT; have HE := Lib.hid hE
          have hcv : wq.drew.cell? ⟨b, 0, none⟩ = some (.slice (some ⟨g, 0, none⟩) (n - 1) cap) := hT.blk.cell 0
          have k0 : wq.drew.cell? ⟨B, 0, none⟩ = some (.string a.org) := hBq.cell 0
          have k1 : wq.drew.cell? ⟨B, 1, none⟩ = some (.string a.url) := hBq.cell 1
          have k2 : wq.drew.cell? ⟨B, 2, none⟩ = some (.bool a.creds) := hBq.cell 2
          have k3 : wq.drew.cell? ⟨B, 3, none⟩ = some (.string a.meth) := hBq.cell 3
          have k4 : wq.drew.cell? ⟨B, 4, none⟩ = some (.string a.head) := hBq.cell 4
          have k5 : wq.drew.cell? ⟨B, 5, none⟩ = some (.int .u64 a.til) := hBq.cell 5
          have hsl := Sl.new (enc := encE) wq.drew a 35
          have hrw := (hT.row.drew).alloc (.cells (encE a).toArray 35 (0, 0))
          have hbb : ∀ o, Blk (wq.drew.alloc o) b #[.slice (some ⟨g, 0, none⟩) (n - 1) cap, .int .i64 most] 89 := fun o => hT.blk.drew.alloc o
          have hbh : ∀ o, Blk (wq.drew.alloc o) B (encE a).toArray 35 := fun o => hBq.drew.alloc o
          have hB3 : ∀ y, (Value.slice (some ⟨g, 0, none⟩) (n - 1) cap).ownBlock = some y → y ≠ B := hvB.out
          have HSL := Lib.hid hsl; have HRW := Lib.hid hrw; have HBB := Lib.hid hbb; have HBH := Lib.hid hbh; have HB3 := Lib.hid hB3
          have hltb := hT.blk.lt
          have hltB := hBq.lt
          clear hT hE hsl hrw hbb hbh hBq hB3
          refine start_ (n := 11) (S := fun w' => w'.cell? ⟨b, 0, none⟩ = some (.slice (some ⟨g, 0, none⟩) (n - 1) cap) ∧ w'.cell? ⟨B, 0, none⟩ = some (.string a.org) ∧ w'.cell? ⟨B, 1, none⟩ = some (.string a.url) ∧ w'.cell? ⟨B, 2, none⟩ = some (.bool a.creds) ∧ w'.cell? ⟨B, 3, none⟩ = some (.string a.meth) ∧ w'.cell? ⟨B, 4, none⟩ = some (.string a.head) ∧ w'.cell? ⟨B, 5, none⟩ = some (.int .u64 a.til)) (ds := [10]) #[false, false, false, false, false, false, false, false, false, false, false] (by kernel_rfl) rfl rfl ⟨hcv, k0, k1, k2, k3, k4, k5⟩ (fun hHeld => ?_)
          refine pure_ (i := 0) (N := some 69) (v := ?_) (a' := ?_) #[true, false, false, false, false, false, false, false, false, false, false] rfl rfl (by kernel_rfl) (fun _ _ _ h => h) (Or.inl ⟨by rfl, ?_⟩) ?_ ?_
          rotate_left
          · intro w'
            go_simp
            with_reducible rfl
          rotate_left
          · simp only [Act.put, List.setIfInBounds_toArray, List.set_cons_zero, List.set_cons_succ, i64_w, i32_w]
            rfl
          refine pure_ (i := 1) (N := some 70) (v := ?_) (a' := ?_) #[true, true, false, false, false, false, false, false, false, false, false] rfl rfl (by kernel_rfl) (fun _ _ _ h => h) (Or.inl ⟨by rfl, ?_⟩) ?_ ?_
          rotate_left
          · intro w'
            go_simp
            with_reducible rfl
          rotate_left
          · simp only [Act.put, List.setIfInBounds_toArray, List.set_cons_zero, List.set_cons_succ, i64_w, i32_w]
            rfl
          refine pure_ (i := 2) (N := some 71) (v := ?_) (a' := ?_) #[true, true, true, false, false, false, false, false, false, false, false] rfl rfl (by kernel_rfl) (fun _ _ _ h => h) (Or.inl ⟨by rfl, ?_⟩) ?_ ?_
          rotate_left
          · intro w'
            go_simp
            with_reducible rfl
          rotate_left
          · simp only [Act.put, List.setIfInBounds_toArray, List.set_cons_zero, List.set_cons_succ, i64_w, i32_w]
            rfl
          refine pure_ (i := 3) (N := some 72) (v := ?_) (a' := ?_) #[true, true, true, true, false, false, false, false, false, false, false] rfl rfl (by kernel_rfl) (fun _ _ _ h => h) (Or.inl ⟨by rfl, ?_⟩) ?_ ?_
          rotate_left
          · intro w'
            go_simp
            with_reducible rfl
          rotate_left
          · simp only [Act.put, List.setIfInBounds_toArray, List.set_cons_zero, List.set_cons_succ, i64_w, i32_w]
            rfl
          refine take_ (i := 4) (N := some 73) (v := ?_) (a' := ?_) #[true, true, true, true, true, false, false, false, false, false, false] rfl rfl (by kernel_rfl) (fun _ _ _ h => h) (Or.inl ⟨by rfl, ?_⟩) hHeld ?_ ?_
          rotate_left
          · rintro w' ⟨s0, s1, s2, s3, s4, s5, s6⟩
            go_simp
            with_reducible rfl
          rotate_left
          · simp only [Act.put, List.setIfInBounds_toArray, List.set_cons_zero, List.set_cons_succ, i64_w, i32_w]
            rfl
          refine take_ (i := 5) (N := some 74) (v := ?_) (a' := ?_) #[true, true, true, true, true, true, false, false, false, false, false] rfl rfl (by kernel_rfl) (fun _ _ _ h => h) (Or.inl ⟨by rfl, ?_⟩) hHeld ?_ ?_
          rotate_left
          · rintro w' ⟨s0, s1, s2, s3, s4, s5, s6⟩
            go_simp
            with_reducible rfl
          rotate_left
          · simp only [Act.put, List.setIfInBounds_toArray, List.set_cons_zero, List.set_cons_succ, i64_w, i32_w]
            rfl
          refine one_ (i := 6) (N := some 75) #[true, true, true, true, true, true, true, false, false, false, false] rfl rfl (by kernel_rfl) (by decide) (fun K hK => ?_)
          refine value_ (w1 := ?_) (v := ?_) (by rfl) rfl ?_ ?_
          rotate_left 2
          · go_simp
            constructor
            · rfl
            · rfl
          refine hK.out _ _ ⟨((HBB.out _).cell 0), ((HBH.out _).cell 0), ((HBH.out _).cell 1), ((HBH.out _).cell 2), ((HBH.out _).cell 3), ((HBH.out _).cell 4), ((HBH.out _).cell 5)⟩ (fun hHeld => ?_)
          clear hK K
          refine norm_ (a' := ?_) ?_ ?_
          rotate_left
          · show Act.put _ (some 75) _ = _
            simp only [Act.put, List.setIfInBounds_toArray, List.set_cons_zero, List.set_cons_succ, i64_w, i32_w]
            rfl
          refine one_ (i := 7) (N := some 76) #[true, true, true, true, true, true, true, true, false, false, false] rfl rfl (by kernel_rfl) (by decide) (fun K hK => ?_)
          refine step_appN tyE encE_ok (by rfl) _ _ (by rfl) HRW.out (by rfl) HSL.out (by rfl) hlen h63 ?_
          intro a4 c4 w7 hr7 hS7 hg7
          have hb7 := (HT.out.blk_of (((Ext.refl [] _).drew).alloc _) hS7)
          have hh7 := (HBH.out _).keep (hS7 (Value.slice (some ⟨g, 0, none⟩) (n - 1) cap).ownBlock.toList (by simp +contextual)) (by intro hq; exact HB3.out B (by simpa using hq) rfl)
          have hfz : w7.frozen? ⟨b, 0, none⟩ = false := hb7.free 0
          refine hK.out _ _ ⟨(hb7.cell 0), (hh7.cell 0), (hh7.cell 1), (hh7.cell 2), (hh7.cell 3), (hh7.cell 4), (hh7.cell 5)⟩ (fun hHeld => ?_)
          clear hK K
          refine norm_ (a' := ?_) ?_ ?_
          rotate_left
          · show Act.put _ (some 76) _ = _
            simp only [Act.put, List.setIfInBounds_toArray, List.set_cons_zero, List.set_cons_succ, i64_w, i32_w]
            rfl
          refine pure_ (i := 8) (N := some 77) (v := ?_) (a' := ?_) #[true, true, true, true, true, true, true, true, true, false, false] rfl rfl (by kernel_rfl) (fun _ _ _ h => h) (Or.inl ⟨by rfl, ?_⟩) ?_ ?_
          rotate_left
          · intro w'
            go_simp
            with_reducible rfl
          rotate_left
          · simp only [Act.put, List.setIfInBounds_toArray, List.set_cons_zero, List.set_cons_succ, i64_w, i32_w]
            rfl
          refine pure_ (i := 9) (N := some 78) (v := ?_) (a' := ?_) #[true, true, true, true, true, true, true, true, true, true, false] rfl rfl (by kernel_rfl) (fun _ _ _ h => h) (Or.inl ⟨by rfl, ?_⟩) ?_ ?_
          rotate_left
          · intro w'
            go_simp
            with_reducible rfl
          rotate_left
          · simp only [Act.put, List.setIfInBounds_toArray, List.set_cons_zero, List.set_cons_succ, i64_w, i32_w]
            rfl
          refine last_ (i := 10) (N := none) #[true, true, true, true, true, true, true, true, true, true, true] rfl rfl (by kernel_rfl) (by decide) (fun K hK => ?_)
          refine skip_ (w1 := ?_) (by rfl) rfl ?_ ?_
          rotate_left
          · go_simp
            rfl
          refine hK.out _ _ ?_
          clear hK K
          refine done_ (by kernel_rfl) ?_
          have hfin := HT.out.appended (((Ext.refl [] _).drew).alloc _) hr7 hS7 (fun g hg => (hg7 g hg).imp_right (fun h => Nat.le_trans ((((Ext.refl [] wq).drew).alloc (.cells (encE a).toArray 35 (0, 0))).size) h)) 0 (by simp)
          have HF := Lib.hid hfin
          have hs6 := HE.out.size
          clear hfin hr7 hS7 hg7 hb7 hh7
          go_wp2_with fail
          refine bodyPost_ret (v := .bool true) (by simp [results, Try.results16, go_sem]) rfl ?_
          have hvo : (Value.slice (some ⟨g, 0, none⟩) (n - 1) cap).ownBlock = (Value.slice (some ⟨g, 0, none⟩) n cap).ownBlock := rfl
          have hSS : ∀ x, x ∈ b :: (Value.slice (some ⟨g, 0, none⟩) (n - 1) cap).ownBlock.toList → x ∈ S := fun x hx => by rw [HS.out, ← hvo]; exact hx
          exact ⟨by rw [HM.out], _, ⟨_, by rw [HM.out]; exact HF.out.1, rfl⟩, HE.out.trans HF.out.2.1 (fun x hx => .inl (hSS x hx)), fun x hx => (HF.out.2.2 x hx).elim (fun h1 => .inl (hSS x h1)) (fun h1 => .inr (by omega))⟩

        · rw [if_neg hm] at HM
          have d1 : decide (most ≤ (n : Int)) = false := decide_eq_false hm
          go_wp2_with fail
          refine HIF.out.mono ?_
          rintro e w2 ⟨rfl, e2⟩
          have hT2 := HT.out.keep e2 (by simp)
          have hB2 := HB1.out.keep e2 (by simp)
          have hcv2 : w2.cell? ⟨b, 0, none⟩ = some (.slice va n cap) := hT2.blk.cell 0
          have hcm2 : w2.cell? ⟨b, 1, none⟩ = some (.int .i64 most) := hT2.blk.cell 1
          have hex2 := HX1.out.trans e2 (by simp)
          have HT2 := Lib.hid hT2; have HB2 := Lib.hid hB2; have HEX2 := Lib.hid hex2
          clear hT2 hB2 hex2 HT HB1 HX1 HIF e2
          go_wp2_with fail
          refine start_ (n := 10) (S := fun w' => w'.cell? ⟨b, 0, none⟩ = some (.slice va n cap) ∧ w'.cell? ⟨b, 1, none⟩ = some (.int .i64 most)) (ds := []) #[false, false, false, false, false, false, false, false, false, false] (by kernel_rfl) rfl rfl ⟨hcv2, hcm2⟩ (fun hHeld => ?_)
          refine pure_ (i := 0) (N := some 46) (v := ?_) (a' := ?_) #[true, false, false, false, false, false, false, false, false, false] rfl rfl (by kernel_rfl) (fun _ _ _ h => h) (Or.inl ⟨by rfl, ?_⟩) ?_ ?_
          rotate_left
          · intro w'
            go_simp
            with_reducible rfl
          rotate_left
          · simp only [Act.put, List.setIfInBounds_toArray, List.set_cons_zero, List.set_cons_succ, i64_w, i32_w]
            rfl
          refine pure_ (i := 1) (N := some 47) (v := ?_) (a' := ?_) #[true, true, false, false, false, false, false, false, false, false] rfl rfl (by kernel_rfl) (fun _ _ _ h => h) (Or.inl ⟨by rfl, ?_⟩) ?_ ?_
          rotate_left
          · intro w'
            go_simp
            with_reducible rfl
          rotate_left
          · simp only [Act.put, List.setIfInBounds_toArray, List.set_cons_zero, List.set_cons_succ, i64_w, i32_w]
            rfl
          refine pure_ (i := 2) (N := some 48) (v := ?_) (a' := ?_) #[true, true, true, false, false, false, false, false, false, false] rfl rfl (by kernel_rfl) (fun _ _ _ h => h) (Or.inl ⟨by rfl, ?_⟩) ?_ ?_
          rotate_left
          · intro w'
            go_simp
            with_reducible rfl
          rotate_left
          · simp only [Act.put, List.setIfInBounds_toArray, List.set_cons_zero, List.set_cons_succ, i64_w, i32_w]
            rfl
          refine pure_ (i := 5) (N := some 51) (v := ?_) (a' := ?_) #[true, true, true, false, false, true, false, false, false, false] rfl rfl (by kernel_rfl) (fun _ _ _ h => h) (Or.inl ⟨by rfl, ?_⟩) ?_ ?_
          rotate_left
          · intro w'
            go_simp
            with_reducible rfl
          rotate_left
          · simp only [Act.put, List.setIfInBounds_toArray, List.set_cons_zero, List.set_cons_succ, i64_w, i32_w]
            rfl
          refine pure_ (i := 6) (N := some 52) (v := ?_) (a' := ?_) #[true, true, true, false, false, true, true, false, false, false] rfl rfl (by kernel_rfl) (fun _ _ _ h => h) (Or.inl ⟨by rfl, ?_⟩) ?_ ?_
          rotate_left
          · intro w'
            go_simp
            with_reducible rfl
          rotate_left
          · simp only [Act.put, List.setIfInBounds_toArray, List.set_cons_zero, List.set_cons_succ, i64_w, i32_w]
            rfl
          refine pure_ (i := 7) (N := some 53) (v := ?_) (a' := ?_) #[true, true, true, false, false, true, true, true, false, false] rfl rfl (by kernel_rfl) (fun _ _ _ h => h) (Or.inl ⟨by rfl, ?_⟩) ?_ ?_
          rotate_left
          · intro w'
            go_simp
            with_reducible rfl
          rotate_left
          · simp only [Act.put, List.setIfInBounds_toArray, List.set_cons_zero, List.set_cons_succ, i64_w, i32_w]
            rfl
          refine take_ (i := 3) (N := some 49) (v := ?_) (a' := ?_) #[true, true, true, true, false, true, true, true, false, false] rfl rfl (by kernel_rfl) (fun _ _ _ h => h) (Or.inl ⟨by rfl, ?_⟩) hHeld ?_ ?_
          rotate_left
          · rintro w' ⟨s0, s1⟩
            go_simp
            with_reducible rfl
          rotate_left
          · simp only [Act.put, List.setIfInBounds_toArray, List.set_cons_zero, List.set_cons_succ, i64_w, i32_w]
            rfl
          refine pure_ (i := 4) (N := some 50) (v := ?_) (a' := ?_) #[true, true, true, true, true, true, true, true, false, false] rfl rfl (by kernel_rfl) (fun _ _ _ h => h) (Or.inl ⟨by rfl, ?_⟩) ?_ ?_
          rotate_left
          · intro w'
            go_simp
            with_reducible rfl
          rotate_left
          · simp only [Act.put, List.setIfInBounds_toArray, List.set_cons_zero, List.set_cons_succ, i64_w, i32_w]
            rfl
          refine take_ (i := 8) (N := some 54) (v := ?_) (a' := ?_) #[true, true, true, true, true, true, true, true, true, false] rfl rfl (by kernel_rfl) (fun _ _ _ h => h) (Or.inl ⟨by rfl, ?_⟩) hHeld ?_ ?_
          rotate_left
          · rintro w' ⟨s0, s1⟩
            go_simp
            with_reducible rfl
          rotate_left
          · simp only [Act.put, List.setIfInBounds_toArray, List.set_cons_zero, List.set_cons_succ, i64_w, i32_w]
            rfl
          refine pure_ (i := 9) (N := some 55) (v := ?_) (a' := ?_) #[true, true, true, true, true, true, true, true, true, true] rfl rfl (by kernel_rfl) (fun _ _ _ h => h) (Or.inl ⟨by rfl, ?_⟩) ?_ ?_
          rotate_left
          · intro w'
            go_simp
            with_reducible rfl
          rotate_left
          · simp only [Act.put, List.setIfInBounds_toArray, List.set_cons_zero, List.set_cons_succ, i64_w, i32_w]
            rfl
          refine done_ (by kernel_rfl) ?_
          go_wp2_with fail
          have hT := HT2.out.keep ((Ext.refl [] _).drew) (by simp); have hBq := HB2.out.drew; have hE := HEX2.out.drew
          generalize w2.drew = wq at hT hBq hE ⊢
          clear HT2 HB2 HEX2 hcv2 hcm2
          generalize ys = zs at hT HM HN
          have hm3n : n ≤ n := Nat.le_refl _
          have hm3l : Hid (n = zs.length) := hT.row.len
          have hm3 : n < 100000 := by omega
          have h63 : n + 1 ≤ 1000000 := by omega
          have hlen : LenIs zs [a] (n + 1) := by unfold LenIs; rw [← hm3l.out]; rfl
          have HT := Lib.hid hT; have HE := Lib.hid hE
          have hcv : wq.drew.cell? ⟨b, 0, none⟩ = some (.slice va n cap) := hT.blk.cell 0
          have k0 : wq.drew.cell? ⟨B, 0, none⟩ = some (.string a.org) := hBq.cell 0
          have k1 : wq.drew.cell? ⟨B, 1, none⟩ = some (.string a.url) := hBq.cell 1
          have k2 : wq.drew.cell? ⟨B, 2, none⟩ = some (.bool a.creds) := hBq.cell 2
          have k3 : wq.drew.cell? ⟨B, 3, none⟩ = some (.string a.meth) := hBq.cell 3
          have k4 : wq.drew.cell? ⟨B, 4, none⟩ = some (.string a.head) := hBq.cell 4
          have k5 : wq.drew.cell? ⟨B, 5, none⟩ = some (.int .u64 a.til) := hBq.cell 5
          have hsl := Sl.new (enc := encE) wq.drew a 35
          have hrw := (hT.row.drew).alloc (.cells (encE a).toArray 35 (0, 0))
          have hbb : ∀ o, Blk (wq.drew.alloc o) b #[.slice va n cap, .int .i64 most] 89 := fun o => hT.blk.drew.alloc o
          have hbh : ∀ o, Blk (wq.drew.alloc o) B (encE a).toArray 35 := fun o => hBq.drew.alloc o
          have hB3 : ∀ y, (Value.slice va n cap).ownBlock = some y → y ≠ B := hvB.out
          have HSL := Lib.hid hsl; have HRW := Lib.hid hrw; have HBB := Lib.hid hbb; have HBH := Lib.hid hbh; have HB3 := Lib.hid hB3
          have hltb := hT.blk.lt
          have hltB := hBq.lt
          clear hT hE hsl hrw hbb hbh hBq hB3
          refine start_ (n := 11) (S := fun w' => w'.cell? ⟨b, 0, none⟩ = some (.slice va n cap) ∧ w'.cell? ⟨B, 0, none⟩ = some (.string a.org) ∧ w'.cell? ⟨B, 1, none⟩ = some (.string a.url) ∧ w'.cell? ⟨B, 2, none⟩ = some (.bool a.creds) ∧ w'.cell? ⟨B, 3, none⟩ = some (.string a.meth) ∧ w'.cell? ⟨B, 4, none⟩ = some (.string a.head) ∧ w'.cell? ⟨B, 5, none⟩ = some (.int .u64 a.til)) (ds := [10]) #[false, false, false, false, false, false, false, false, false, false, false] (by kernel_rfl) rfl rfl ⟨hcv, k0, k1, k2, k3, k4, k5⟩ (fun hHeld => ?_)
          refine pure_ (i := 0) (N := some 69) (v := ?_) (a' := ?_) #[true, false, false, false, false, false, false, false, false, false, false] rfl rfl (by kernel_rfl) (fun _ _ _ h => h) (Or.inl ⟨by rfl, ?_⟩) ?_ ?_
          rotate_left
          · intro w'
            go_simp
            with_reducible rfl
          rotate_left
          · simp only [Act.put, List.setIfInBounds_toArray, List.set_cons_zero, List.set_cons_succ, i64_w, i32_w]
            rfl
          refine pure_ (i := 1) (N := some 70) (v := ?_) (a' := ?_) #[true, true, false, false, false, false, false, false, false, false, false] rfl rfl (by kernel_rfl) (fun _ _ _ h => h) (Or.inl ⟨by rfl, ?_⟩) ?_ ?_
          rotate_left
          · intro w'
            go_simp
            with_reducible rfl
          rotate_left
          · simp only [Act.put, List.setIfInBounds_toArray, List.set_cons_zero, List.set_cons_succ, i64_w, i32_w]
            rfl
          refine pure_ (i := 2) (N := some 71) (v := ?_) (a' := ?_) #[true, true, true, false, false, false, false, false, false, false, false] rfl rfl (by kernel_rfl) (fun _ _ _ h => h) (Or.inl ⟨by rfl, ?_⟩) ?_ ?_
          rotate_left
          · intro w'
            go_simp
            with_reducible rfl
          rotate_left
          · simp only [Act.put, List.setIfInBounds_toArray, List.set_cons_zero, List.set_cons_succ, i64_w, i32_w]
            rfl
          refine pure_ (i := 3) (N := some 72) (v := ?_) (a' := ?_) #[true, true, true, true, false, false, false, false, false, false, false] rfl rfl (by kernel_rfl) (fun _ _ _ h => h) (Or.inl ⟨by rfl, ?_⟩) ?_ ?_
          rotate_left
          · intro w'
            go_simp
            with_reducible rfl
          rotate_left
          · simp only [Act.put, List.setIfInBounds_toArray, List.set_cons_zero, List.set_cons_succ, i64_w, i32_w]
            rfl
          refine take_ (i := 4) (N := some 73) (v := ?_) (a' := ?_) #[true, true, true, true, true, false, false, false, false, false, false] rfl rfl (by kernel_rfl) (fun _ _ _ h => h) (Or.inl ⟨by rfl, ?_⟩) hHeld ?_ ?_
          rotate_left
          · rintro w' ⟨s0, s1, s2, s3, s4, s5, s6⟩
            go_simp
            with_reducible rfl
          rotate_left
          · simp only [Act.put, List.setIfInBounds_toArray, List.set_cons_zero, List.set_cons_succ, i64_w, i32_w]
            rfl
          refine take_ (i := 5) (N := some 74) (v := ?_) (a' := ?_) #[true, true, true, true, true, true, false, false, false, false, false] rfl rfl (by kernel_rfl) (fun _ _ _ h => h) (Or.inl ⟨by rfl, ?_⟩) hHeld ?_ ?_
          rotate_left
          · rintro w' ⟨s0, s1, s2, s3, s4, s5, s6⟩
            go_simp
            with_reducible rfl
          rotate_left
          · simp only [Act.put, List.setIfInBounds_toArray, List.set_cons_zero, List.set_cons_succ, i64_w, i32_w]
            rfl
          refine one_ (i := 6) (N := some 75) #[true, true, true, true, true, true, true, false, false, false, false] rfl rfl (by kernel_rfl) (by decide) (fun K hK => ?_)
          refine value_ (w1 := ?_) (v := ?_) (by rfl) rfl ?_ ?_
          rotate_left 2
          · go_simp
            constructor
            · rfl
            · rfl
          refine hK.out _ _ ⟨((HBB.out _).cell 0), ((HBH.out _).cell 0), ((HBH.out _).cell 1), ((HBH.out _).cell 2), ((HBH.out _).cell 3), ((HBH.out _).cell 4), ((HBH.out _).cell 5)⟩ (fun hHeld => ?_)
          clear hK K
          refine norm_ (a' := ?_) ?_ ?_
          rotate_left
          · show Act.put _ (some 75) _ = _
            simp only [Act.put, List.setIfInBounds_toArray, List.set_cons_zero, List.set_cons_succ, i64_w, i32_w]
            rfl
          refine one_ (i := 7) (N := some 76) #[true, true, true, true, true, true, true, true, false, false, false] rfl rfl (by kernel_rfl) (by decide) (fun K hK => ?_)
          refine step_appN tyE encE_ok (by rfl) _ _ (by rfl) HRW.out (by rfl) HSL.out (by rfl) hlen h63 ?_
          intro a4 c4 w7 hr7 hS7 hg7
          have hb7 := (HT.out.blk_of (((Ext.refl [] _).drew).alloc _) hS7)
          have hh7 := (HBH.out _).keep (hS7 (Value.slice va n cap).ownBlock.toList (by simp +contextual)) (by intro hq; exact HB3.out B (by simpa using hq) rfl)
          have hfz : w7.frozen? ⟨b, 0, none⟩ = false := hb7.free 0
          refine hK.out _ _ ⟨(hb7.cell 0), (hh7.cell 0), (hh7.cell 1), (hh7.cell 2), (hh7.cell 3), (hh7.cell 4), (hh7.cell 5)⟩ (fun hHeld => ?_)
          clear hK K
          refine norm_ (a' := ?_) ?_ ?_
          rotate_left
          · show Act.put _ (some 76) _ = _
            simp only [Act.put, List.setIfInBounds_toArray, List.set_cons_zero, List.set_cons_succ, i64_w, i32_w]
            rfl
          refine pure_ (i := 8) (N := some 77) (v := ?_) (a' := ?_) #[true, true, true, true, true, true, true, true, true, false, false] rfl rfl (by kernel_rfl) (fun _ _ _ h => h) (Or.inl ⟨by rfl, ?_⟩) ?_ ?_
          rotate_left
          · intro w'
            go_simp
            with_reducible rfl
          rotate_left
          · simp only [Act.put, List.setIfInBounds_toArray, List.set_cons_zero, List.set_cons_succ, i64_w, i32_w]
            rfl
          refine pure_ (i := 9) (N := some 78) (v := ?_) (a' := ?_) #[true, true, true, true, true, true, true, true, true, true, false] rfl rfl (by kernel_rfl) (fun _ _ _ h => h) (Or.inl ⟨by rfl, ?_⟩) ?_ ?_
          rotate_left
          · intro w'
            go_simp
            with_reducible rfl
          rotate_left
          · simp only [Act.put, List.setIfInBounds_toArray, List.set_cons_zero, List.set_cons_succ, i64_w, i32_w]
            rfl
          refine last_ (i := 10) (N := none) #[true, true, true, true, true, true, true, true, true, true, true] rfl rfl (by kernel_rfl) (by decide) (fun K hK => ?_)
          refine skip_ (w1 := ?_) (by rfl) rfl ?_ ?_
          rotate_left
          · go_simp
            rfl
          refine hK.out _ _ ?_
          clear hK K
          refine done_ (by kernel_rfl) ?_
          have hfin := HT.out.appended (((Ext.refl [] _).drew).alloc _) hr7 hS7 (fun g hg => (hg7 g hg).imp_right (fun h => Nat.le_trans ((((Ext.refl [] wq).drew).alloc (.cells (encE a).toArray 35 (0, 0))).size) h)) 0 (by simp)
          have HF := Lib.hid hfin
          have hs6 := HE.out.size
          clear hfin hr7 hS7 hg7 hb7 hh7
          go_wp2_with fail
          refine bodyPost_ret (v := .bool true) (by simp [results, Try.results16, go_sem]) rfl ?_
          have hvo : (Value.slice va n cap).ownBlock = (Value.slice va n cap).ownBlock := rfl
          have hSS : ∀ x, x ∈ b :: (Value.slice va n cap).ownBlock.toList → x ∈ S := fun x hx => by rw [HS.out, ← hvo]; exact hx
          exact ⟨by rw [HM.out], _, ⟨_, by rw [HM.out]; exact HF.out.1, rfl⟩, HE.out.trans HF.out.2.1 (fun x hx => .inl (hSS x hx)), fun x hx => (HF.out.2.2 x hx).elim (fun h1 => .inl (hSS x h1)) (fun h1 => .inr (by omega))⟩

end Go.Proofs.Ytkbjpackijdnkaa
