/- The document's cache: Put, by contract. -/
import Derived.Test.YtkbjpackijdnkaaRefCache2
namespace Go.Proofs.Ytkbjpackijdnkaa
open Go.RowKit Go.Proofs.YtkbjpackijdnkaaW.PrintLast
set_option linter.unusedVariables false
set_option linter.unusedSimpArgs false

def RPutP (most : Int) (b : Nat) (S : List Nat) (a : Ent) (now : Int) (xs : List Ent) (w : World) (e : Ending) (w' : World) : Prop :=
  e = .returned (.bool (putM most a now xs).1) ∧ Chg (fun w' S' => CR most w' b S' (putM most a now xs).2) S w w'

/-- Two entries are not one: where they differ. -/
theorem same_split {x a : Ent} (h : sameE x a = false) : (¬ x.org.toList = a.org.toList) ∨ (x.org = a.org ∧ ¬ x.url.toList = a.url.toList) ∨ (x.org = a.org ∧ x.url = a.url ∧ x.creds = !a.creds) ∨
    (x.org = a.org ∧ x.url = a.url ∧ x.creds = a.creds ∧ (x.meth.toList == a.meth.toList) = false) ∨ (x.org = a.org ∧ x.url = a.url ∧ x.creds = a.creds ∧ x.meth = a.meth ∧ (x.head.toList == a.head.toList) = false) := by
  unfold sameE at h
  by_cases g1 : x.org = a.org
  · by_cases g2 : x.url = a.url
    · by_cases g3 : x.creds = a.creds
      · by_cases g4 : x.meth = a.meth
        · right; right; right; right
          refine ⟨g1, g2, g3, g4, ?_⟩
          rw [bytes_beq]
          simpa [g1, g2, g3, g4] using h
        · right; right; right; left
          refine ⟨g1, g2, g3, ?_⟩
          rw [bytes_beq]
          simpa using g4
      · right; right; left
        refine ⟨g1, g2, ?_⟩
        revert g3
        cases x.creds <;> cases a.creds <;> simp
    · right; left; exact ⟨g1, fun h => g2 (bytes_inj.1 h)⟩
  · left; exact fun h => g1 (bytes_inj.1 h)

set_option maxHeartbeats 16000000 in
set_option maxRecDepth 100000 in
theorem cr_put (most : Int) (b : Nat) (S : List Nat) (xs0 : List Ent) (a : Ent) (now : Int) (hx : xs0.length < 10000) (hmo : 1 ≤ most) (w00 : World) (h : CR most w00 b S xs0) :
    Calls Try.prog 34 #[.pointer (some ⟨b, 0, none⟩), .agg (encE a).toArray, .int .u64 now] w00 (RPutP most b S a now xs0 w00) := by
  unfold RPutP
  have hb : badE a now = ((a.meth.toList.isEmpty == a.head.toList.isEmpty) || decide (a.til ≤ now)) := by
    have hz : ∀ z : ByteArray, decide (z = emp) = z.toList.isEmpty := fun z => by
      rw [← bytes_beq, show emp.toList = [] by rw [ByteArray.toList_eq]; rfl]
      cases z.toList <;> rfl
    unfold badE; rw [hz, hz]
  have hM1 : badE a now = true → putM most a now xs0 = (false, xs0) := fun hq => by unfold putM; rw [if_pos hq]
  have hM2 : badE a now = false → putM most a now xs0 = (true, putY most a (sweepL now xs0)) := fun hq => by unfold putM; rw [if_neg (by rw [hq]; decide)]
  cases e1 : (a.meth.toList.isEmpty == a.head.toList.isEmpty) with
  | true =>
    rw [e1] at hb
    have HM := Lib.hid (hM1 (by rw [hb]; rfl)); have HH := Lib.hid h
    clear hM1 hM2 h hx hb
    unfold encE
    go_enter Try.func34, Try.ntmps34
    go_wp2_with fail
    go_ret
    exact ⟨ret_bool (by rw [HM.out]), S, by rw [HM.out]; exact HH.out.keep0 ((Ext.refl _ _).alloc _), ((Ext.refl [] w00).alloc _).mono (by simp), fun x hx => .inl hx⟩
  | false =>
    cases e2 : decide (a.til ≤ now) with
    | true =>
      rw [e1, e2] at hb
      have HM := Lib.hid (hM1 (by rw [hb]; rfl)); have HH := Lib.hid h
      clear hM1 hM2 h hx hb
      unfold encE
      go_enter Try.func34, Try.ntmps34
      go_wp2_with fail
      go_ret
      exact ⟨ret_bool (by rw [HM.out]), S, by rw [HM.out]; exact HH.out.keep0 ((Ext.refl _ _).alloc _), ((Ext.refl [] w00).alloc _).mono (by simp), fun x hx => .inl hx⟩
    | false =>
      rw [e1, e2] at hb
      have HM := Lib.hid (hM2 (by rw [hb]; rfl))
      obtain ⟨xs, hys⟩ : ∃ xs, xs = sweepL now xs0 := ⟨_, rfl⟩
      have hyl : xs.length ≤ xs0.length := by rw [hys]; exact List.length_filter_le _ _
      have hsw := cr_sweep most b S xs0 now (by omega) (w00.alloc (.cells (encE a).toArray 35 (0, 0))) (h.keep0 ((Ext.refl _ _).alloc _))
      unfold RDropP at hsw
      change Calls _ _ _ _ fun e w' => e = .returned (.int .i64 ((xs0.length : Int) - ((sweepL now xs0).length : Int))) ∧ Chg (fun w' S' => CR most w' b S' (sweepL now xs0)) S _ w' at hsw
      rw [← hys] at HM hsw
      have hlt := h.lt
      have hbB : ∀ x ∈ S, x ≠ w00.heap.size := fun x hx => by have := hlt x hx; omega
      have hB : Blk (w00.alloc (.cells (encE a).toArray 35 (0, 0))) w00.heap.size (encE a).toArray 35 := Blk.new _ _ _
      have e0 : Ext [] w00 (w00.alloc (.cells (encE a).toArray 35 (0, 0))) := (Ext.refl _ _).alloc _
      have hsz : (w00.alloc (.cells (encE a).toArray 35 (0, 0))).heap.size = w00.heap.size + 1 := by rw [World.size_alloc]
      have HSW := Lib.hid hsw; have HB := Lib.hid hB; have HbB := Lib.hid hbB; have E0 := Lib.hid e0; have HSZ := Lib.hid hsz
      clear hM1 hM2 hb hsw hB hbB hlt hys e0 h hsz
      unfold encE at HSW HB E0 HSZ ⊢
      go_enter Try.func34, Try.ntmps34
      go_wp2_with fail
      refine HSW.out.mono ?_
      rintro e w1 ⟨rfl, S1, h1, x1, kk1⟩
      have hB1 := HB.out.keep x1 (fun hm => HbB.out _ hm rfl)
      have hSB1 : ∀ x ∈ S1, x ≠ w00.heap.size := fun x hx => (kk1 x hx).elim (fun h => HbB.out x h) (fun h => by have := HSZ.out; omega)
      have hSS1 : ∀ x ∈ S1, x ∈ S ∨ w00.heap.size ≤ x := fun x hx => (kk1 x hx).elim .inl (fun h => .inr (by have := HSZ.out; omega))
      have hx1 : Ext S w00 w1 := (E0.out.mono (by simp)).trans x1 (fun x hx => .inl hx)
      obtain ⟨B, hBe⟩ : ∃ B, B = w00.heap.size := ⟨_, rfl⟩
      rw [← hBe] at hB1 hSB1 ⊢
      clear HSW HB E0 x1 HSZ kk1 HbB
      obtain ⟨v, hT, hS⟩ := h1
      obtain ⟨va, cap, rfl⟩ := hT.row.val
      obtain ⟨n, hn⟩ : ∃ n, n = xs.length := ⟨_, rfl⟩
      rw [← hn] at hT hyl hS ⊢
      have hn4 : n < 10000 := by omega
      have hvB : Hid (∀ y, (Value.slice va n cap).ownBlock = some y → y ≠ B) := fun y hy => hSB1 y (by rw [hS]; exact List.mem_cons_of_mem _ (by simpa using hy))
      have hbB : b ≠ B := hSB1 b (by rw [hS]; simp)
      have HSS1 : Hid (∀ x ∈ b :: (Value.slice va n cap).ownBlock.toList, x ∈ S ∨ w00.heap.size ≤ x) := fun x hx => hSS1 x (by rw [hS]; exact hx)
      have hlb := hT.blk.lt
      have hwB : w00.heap.size ≤ B := by omega
      have HT := Lib.hid hT; have HB1 := Lib.hid hB1; have HX1 := Lib.hid hx1; have HN := Lib.hid hn
      clear hT hB1 hx1 hn hBe hS hSB1 hSS1 hyl hx
      obtain ⟨ao, au, ac, am, ah, atil⟩ := a
      go_wp2_with fail
      go_loopw [7] (fun iv wr => ∃ (k : Nat), k ≤ n ∧ iv = .int .i64 k ∧ Ext [] w1 wr ∧ Hid (∀ (j : Nat) x, j < k → xs[j]? = some x → sameE x ⟨ao, au, ac, am, ah, atil⟩ = false)) (fun iv _ => n - (intOf iv).toNat)
      case atStart => exact ⟨0, Nat.zero_le _, rfl, Ext.refl _ _, fun j x hj => absurd hj (Nat.not_lt_zero _)⟩
      case round =>
        obtain ⟨k, hkn, rfl, her, hall⟩ := hrel
        have hTr := HT.out.keep her (by simp)
        have hcv : wr.cell? ⟨b, 1, none⟩ = some (.slice va n cap) := hTr.blk.cell 1
        by_cases hk : k < n
        · have d1 : decide (k < n) = true := decide_eq_true hk
          obtain ⟨x, hxk⟩ : ∃ x, xs[k]? = some x := ⟨_, List.getElem?_eq_getElem (by rw [← HN.out]; exact hk)⟩
          obtain ⟨g, rfl, hgl⟩ := hTr.row.addr (by omega)
          have l0 := hTr.row.cell encE_ok.len hxk 0 (by omega); have l1 := hTr.row.cell encE_ok.len hxk 1 (by omega); have l2 := hTr.row.cell encE_ok.len hxk 2 (by omega)
          have l3 := hTr.row.cell encE_ok.len hxk 3 (by omega); have l4 := hTr.row.cell encE_ok.len hxk 4 (by omega); have l5 := hTr.row.cell encE_ok.len hxk 5 (by omega)
          simp only [encE, Nat.add_zero, List.getElem?_cons_zero, List.getElem?_cons_succ] at l0 l1 l2 l3 l4 l5
          have hBr := HB1.out.keep her (by simp)
          have q0 := hBr.cell 0; have q1 := hBr.cell 1; have q2 := hBr.cell 2; have q3 := hBr.cell 3; have q4 := hBr.cell 4; have q5 := hBr.cell 5
          simp only [List.getElem?_toArray, List.getElem?_cons_zero, List.getElem?_cons_succ] at q0 q1 q2 q3 q4 q5
          have b1 : (0 : Int) ≤ (k : Int) := by omega
          have b2 : (k : Int) < (n : Int) := by omega
          have hnext : sameE x ⟨ao, au, ac, am, ah, atil⟩ = false → Hid (∀ (j : Nat) x, j < k + 1 → xs[j]? = some x → sameE x ⟨ao, au, ac, am, ah, atil⟩ = false) := fun hc j y hj hy => by
            rcases Nat.lt_or_ge j k with h1 | h1
            · exact hall.out j y h1 hy
            · have : j = k := by omega
              rw [this, hxk] at hy
              injection hy with hy
              rw [← hy]; exact hc
          have HNX := Lib.hid hnext; have HXK := Lib.hid hxk; have HALL := hall
          clear hnext hxk hall hTr hBr
          cases hc : sameE x ⟨ao, au, ac, am, ah, atil⟩ with
          | false =>
            have hsp := same_split hc
            have HNX2 := HNX.out hc
            obtain ⟨xo, xu, xc, xm, xh, xt⟩ := x
            simp only at hsp l0 l1 l2 l3 l4 l5
            clear hc
            rcases hsp with hne | ⟨rfl, hne⟩ | ⟨rfl, rfl, hne⟩ | ⟨rfl, rfl, rfl, hne⟩ | ⟨rfl, rfl, rfl, rfl, hne⟩
            · skip
              go_wp2_with fail
              go_quiet (fail)
              go_wp2_with fail
              exact ⟨⟨k + 1, by omega, by go_num, her.drewN _, HNX2⟩, by simp [intOf]; omega⟩
            · skip
              go_wp2_with fail
              go_quiet (fail)
              go_wp2_with fail
              exact ⟨⟨k + 1, by omega, by go_num, her.drewN _, HNX2⟩, by simp [intOf]; omega⟩
            · subst hne
              cases ac with
              | true =>
                go_wp2_with fail
                go_quiet (fail)
                go_wp2_with fail
                exact ⟨⟨k + 1, by omega, by go_num, her.drewN _, HNX2⟩, by simp [intOf]; omega⟩
              | false =>
                go_wp2_with fail
                go_quiet (fail)
                go_wp2_with fail
                exact ⟨⟨k + 1, by omega, by go_num, her.drewN _, HNX2⟩, by simp [intOf]; omega⟩
            · skip
              go_wp2_with fail
              go_quiet (fail)
              go_wp2_with fail
              exact ⟨⟨k + 1, by omega, by go_num, her.drewN _, HNX2⟩, by simp [intOf]; omega⟩
            · skip
              go_wp2_with fail
              go_quiet (fail)
              go_wp2_with fail
              exact ⟨⟨k + 1, by omega, by go_num, her.drewN _, HNX2⟩, by simp [intOf]; omega⟩
          | true =>
            have hP : putY most ⟨ao, au, ac, am, ah, atil⟩ xs = xs.set k { x with til := atil } := by
              have hf : xs.findIdx? (fun x => sameE x ⟨ao, au, ac, am, ah, atil⟩) = some k := by
                rw [List.findIdx?_eq_some_iff_getElem]
                have h1 := HXK.out
                have hi := (List.getElem?_eq_some_iff.1 h1).1
                refine ⟨hi, by rw [List.getElem?_eq_getElem hi] at h1; injection h1 with h1; rw [h1]; exact hc, fun j hj => ?_⟩
                have := HALL.out j _ hj (List.getElem?_eq_getElem (by omega))
                simpa using this
              unfold putY; rw [hf]
              simp only [HXK.out, Option.getD_some]
            rw [hP] at HM
            have hcc : x.org = ao ∧ x.url = au ∧ x.creds = ac ∧ x.meth = am ∧ x.head = ah := by
              unfold sameE at hc
              simp only [Bool.and_eq_true, decide_eq_true_eq, beq_iff_eq] at hc
              exact ⟨hc.1.1.1.1, hc.1.1.1.2, hc.1.1.2, hc.1.2, hc.2⟩
            obtain ⟨xo, xu, xc, xm, xh, xt⟩ := x
            simp only at hcc
            obtain ⟨rfl, rfl, rfl, rfl, rfl⟩ := hcc
            clear hP HNX HALL hc
            go_wp2_with fail
            go_quiet (fail)
            go_wp2_with fail
            have hTz := HT.out.keep (her.drewN nq) (by simp)
            have hBz := HB1.out.keep (her.drewN nq) (by simp)
            have hEz := HX1.out.trans (her.drewN nq) (by simp)
            generalize wr.drewN nq = w2 at hTz hBz hEz ⊢
            clear l0 l1 l2 l3 l4 l5 q0 q1 q2 q3 q4 q5 her hcv
            have hcv2 : w2.cell? ⟨b, 1, none⟩ = some (.slice (some ⟨g, 0, none⟩) n cap) := hTz.blk.cell 1
            have k5 : w2.cell? ⟨B, 3 + 2, none⟩ = some (.int .u64 atil) := hBz.cell 5
            have c5 := hTz.row.cell encE_ok.len HXK.out 5 (by omega)
            simp only [encE, List.getElem?_cons_zero, List.getElem?_cons_succ] at c5
            have f5 := hTz.row.free (k * 6 + 5)
            have hput := hTz.row.put1 encE_ok.len (j := 5) (by omega) HXK.out (.int .u64 atil) ⟨xo, xu, xc, xm, xh, atil⟩ rfl
            have e3 : Ext [g] w2 (w2.setCell ⟨g, k * 6 + 5, none⟩ (.int .u64 atil)).drew := ((Ext.refl [g] w2).setCell (Or.inl (by simp)) _).drew
            have hfin : CRT most (w2.setCell ⟨g, k * 6 + 5, none⟩ (.int .u64 atil)).drew b (.slice (some ⟨g, 0, none⟩) n cap) (xs.set k ⟨xo, xu, xc, xm, xh, atil⟩) := ⟨hTz.blk_at rfl e3, hput.drew, hTz.ne⟩
            have HF := Lib.hid hfin
            have hex := hEz.trans e3 (fun x hx => HSS1.out x (List.mem_cons_of_mem _ (by simpa [Value.ownBlock] using hx)))
            have HEX := Lib.hid hex
            clear hTz hBz hput e3 hfin hex HT HB1 HX1 hEz
            refine start_ (n := 10) (S := fun w' => w'.cell? ⟨b, 1, none⟩ = some (.slice (some ⟨g, 0, none⟩) n cap) ∧ w'.cell? ⟨B, 3 + 2, none⟩ = some (.int .u64 atil) ∧ (0 : Int) ≤ (k : Int) ∧ (k : Int) < (n : Int)) (ds := [9]) #[false, false, false, false, false, false, false, false, false, false] (by kernel_rfl) rfl rfl ⟨hcv2, k5, b1, b2⟩ (fun hHeld => ?_)
            refine pure_ (i := 0) (N := some 72) (v := ?_) (a' := ?_) #[true, false, false, false, false, false, false, false, false, false] rfl rfl (by kernel_rfl) (fun _ _ _ h => h) (Or.inl ⟨by rfl, ?_⟩) ?_ ?_
            rotate_left
            · intro w'
              go_simp
              with_reducible rfl
            rotate_left
            · simp only [Act.put, List.setIfInBounds_toArray, List.set_cons_zero, List.set_cons_succ, i64_w, i32_w]
              rfl
            refine pure_ (i := 1) (N := some 73) (v := ?_) (a' := ?_) #[true, true, false, false, false, false, false, false, false, false] rfl rfl (by kernel_rfl) (fun _ _ _ h => h) (Or.inl ⟨by rfl, ?_⟩) ?_ ?_
            rotate_left
            · intro w'
              go_simp
              with_reducible rfl
            rotate_left
            · simp only [Act.put, List.setIfInBounds_toArray, List.set_cons_zero, List.set_cons_succ, i64_w, i32_w]
              rfl
            refine pure_ (i := 2) (N := some 74) (v := ?_) (a' := ?_) #[true, true, true, false, false, false, false, false, false, false] rfl rfl (by kernel_rfl) (fun _ _ _ h => h) (Or.inl ⟨by rfl, ?_⟩) ?_ ?_
            rotate_left
            · intro w'
              go_simp
              with_reducible rfl
            rotate_left
            · simp only [Act.put, List.setIfInBounds_toArray, List.set_cons_zero, List.set_cons_succ, i64_w, i32_w]
              rfl
            refine pure_ (i := 4) (N := some 76) (v := ?_) (a' := ?_) #[true, true, true, false, true, false, false, false, false, false] rfl rfl (by kernel_rfl) (fun _ _ _ h => h) (Or.inl ⟨by rfl, ?_⟩) ?_ ?_
            rotate_left
            · intro w'
              go_simp
              with_reducible rfl
            rotate_left
            · simp only [Act.put, List.setIfInBounds_toArray, List.set_cons_zero, List.set_cons_succ, i64_w, i32_w]
              rfl
            refine pure_ (i := 5) (N := some 77) (v := ?_) (a' := ?_) #[true, true, true, false, true, true, false, false, false, false] rfl rfl (by kernel_rfl) (fun _ _ _ h => h) (Or.inl ⟨by rfl, ?_⟩) ?_ ?_
            rotate_left
            · intro w'
              go_simp
              with_reducible rfl
            rotate_left
            · simp only [Act.put, List.setIfInBounds_toArray, List.set_cons_zero, List.set_cons_succ, i64_w, i32_w]
              rfl
            refine take_ (i := 3) (N := some 75) (v := ?_) (a' := ?_) #[true, true, true, true, true, true, false, false, false, false] rfl rfl (by kernel_rfl) (fun _ _ _ h => h) (Or.inl ⟨by rfl, ?_⟩) hHeld ?_ ?_
            rotate_left
            · rintro w' ⟨s0, s1, s2, s3⟩
              go_simp
              with_reducible rfl
            rotate_left
            · simp only [Act.put, List.setIfInBounds_toArray, List.set_cons_zero, List.set_cons_succ, i64_w, i32_w]
              rfl
            refine take_ (i := 6) (N := some 78) (v := ?_) (a' := ?_) #[true, true, true, true, true, true, true, false, false, false] rfl rfl (by kernel_rfl) (fun _ _ _ h => h) (Or.inl ⟨by rfl, ?_⟩) hHeld ?_ ?_
            rotate_left
            · rintro w' ⟨s0, s1, s2, s3⟩
              go_simp
              with_reducible rfl
            rotate_left
            · simp only [Act.put, List.setIfInBounds_toArray, List.set_cons_zero, List.set_cons_succ, i64_w, i32_w]
              rfl
            refine pure_ (i := 7) (N := some 79) (v := ?_) (a' := ?_) #[true, true, true, true, true, true, true, true, false, false] rfl rfl (by kernel_rfl) (fun _ _ _ h => h) (Or.inl ⟨by rfl, ?_⟩) ?_ ?_
            rotate_left
            · intro w'
              go_simp
              with_reducible rfl
            rotate_left
            · simp only [Act.put, List.setIfInBounds_toArray, List.set_cons_zero, List.set_cons_succ, i64_w, i32_w]
              rfl
            refine pure_ (i := 8) (N := some 80) (v := ?_) (a' := ?_) #[true, true, true, true, true, true, true, true, true, false] rfl rfl (by kernel_rfl) (fun _ _ _ h => h) (Or.inl ⟨by rfl, ?_⟩) ?_ ?_
            rotate_left
            · intro w'
              go_simp
              with_reducible rfl
            rotate_left
            · simp only [Act.put, List.setIfInBounds_toArray, List.set_cons_zero, List.set_cons_succ, i64_w, i32_w]
              rfl
            refine last_ (i := 9) (N := none) #[true, true, true, true, true, true, true, true, true, true] rfl rfl (by kernel_rfl) (by decide) (fun K hK => ?_)
            refine skip_ (w1 := ?_) (by rfl) rfl ?_ ?_
            rotate_left
            · go_simp
              rfl
            refine hK.out _ _ ?_
            clear hK K
            refine done_ (by kernel_rfl) ?_
            go_wp2_with fail
            refine bodyPost_ret (v := .bool true) (by simp [results, Try.results34, go_sem]) rfl ?_
            exact ⟨by rw [HM.out], _, ⟨.slice (some ⟨g, 0, none⟩) n cap, by rw [HM.out]; exact HF.out, rfl⟩, HEX.out, fun x hx => HSS1.out x hx⟩
        · have d1 : decide (k < n) = false := decide_eq_false hk
          have hP : putY most ⟨ao, au, ac, am, ah, atil⟩ xs = (if most ≤ (xs.length : Int) then xs.eraseIdx (eldM xs) else xs) ++ [⟨ao, au, ac, am, ah, atil⟩] := by
            have hf : xs.findIdx? (fun x => sameE x ⟨ao, au, ac, am, ah, atil⟩) = none := by
              rw [List.findIdx?_eq_none_iff]
              intro x hx
              obtain ⟨j, hj⟩ := List.mem_iff_getElem?.1 hx
              exact hall.out j x (by have := (List.getElem?_eq_some_iff.1 hj).1; have := HN.out; omega) hj
            unfold putY; rw [hf]
          rw [hP, ← HN.out] at HM
          have hBr := HB1.out.keep her (by simp)
          have hEr := HX1.out.trans her (by simp)
          have hcm : wr.cell? ⟨b, 0, none⟩ = some (.int .i64 most) := hTr.blk.cell 0
          have hlbr := hTr.blk.lt
          have HTr := Lib.hid hTr; have HBr := Lib.hid hBr; have HEr := Lib.hid hEr
          clear hP hall hBr hEr hTr HT HB1 HX1 hk hkn
          by_cases hm : most ≤ (n : Int)
          · rw [if_pos hm] at HM
            have dm : decide (most ≤ (n : Int)) = true := decide_eq_true hm
            have hn0 : 0 < n := by omega
            go_wp2_with fail
            refine start_ (n := 10) (S := fun w' => w'.cell? ⟨b, 1, none⟩ = some (.slice va n cap) ∧ w'.cell? ⟨b, 0, none⟩ = some (.int .i64 most)) (ds := []) #[false, false, false, false, false, false, false, false, false, false] (by kernel_rfl) rfl rfl ⟨hcv, hcm⟩ (fun hHeld => ?_)
            refine pure_ (i := 0) (N := some 81) (v := ?_) (a' := ?_) #[true, false, false, false, false, false, false, false, false, false] rfl rfl (by kernel_rfl) (fun _ _ _ h => h) (Or.inl ⟨by rfl, ?_⟩) ?_ ?_
            rotate_left
            · intro w'
              go_simp
              with_reducible rfl
            rotate_left
            · simp only [Act.put, List.setIfInBounds_toArray, List.set_cons_zero, List.set_cons_succ, i64_w, i32_w]
              rfl
            refine pure_ (i := 1) (N := some 82) (v := ?_) (a' := ?_) #[true, true, false, false, false, false, false, false, false, false] rfl rfl (by kernel_rfl) (fun _ _ _ h => h) (Or.inl ⟨by rfl, ?_⟩) ?_ ?_
            rotate_left
            · intro w'
              go_simp
              with_reducible rfl
            rotate_left
            · simp only [Act.put, List.setIfInBounds_toArray, List.set_cons_zero, List.set_cons_succ, i64_w, i32_w]
              rfl
            refine pure_ (i := 2) (N := some 83) (v := ?_) (a' := ?_) #[true, true, true, false, false, false, false, false, false, false] rfl rfl (by kernel_rfl) (fun _ _ _ h => h) (Or.inl ⟨by rfl, ?_⟩) ?_ ?_
            rotate_left
            · intro w'
              go_simp
              with_reducible rfl
            rotate_left
            · simp only [Act.put, List.setIfInBounds_toArray, List.set_cons_zero, List.set_cons_succ, i64_w, i32_w]
              rfl
            refine pure_ (i := 5) (N := some 86) (v := ?_) (a' := ?_) #[true, true, true, false, false, true, false, false, false, false] rfl rfl (by kernel_rfl) (fun _ _ _ h => h) (Or.inl ⟨by rfl, ?_⟩) ?_ ?_
            rotate_left
            · intro w'
              go_simp
              with_reducible rfl
            rotate_left
            · simp only [Act.put, List.setIfInBounds_toArray, List.set_cons_zero, List.set_cons_succ, i64_w, i32_w]
              rfl
            refine pure_ (i := 6) (N := some 87) (v := ?_) (a' := ?_) #[true, true, true, false, false, true, true, false, false, false] rfl rfl (by kernel_rfl) (fun _ _ _ h => h) (Or.inl ⟨by rfl, ?_⟩) ?_ ?_
            rotate_left
            · intro w'
              go_simp
              with_reducible rfl
            rotate_left
            · simp only [Act.put, List.setIfInBounds_toArray, List.set_cons_zero, List.set_cons_succ, i64_w, i32_w]
              rfl
            refine pure_ (i := 7) (N := some 88) (v := ?_) (a' := ?_) #[true, true, true, false, false, true, true, true, false, false] rfl rfl (by kernel_rfl) (fun _ _ _ h => h) (Or.inl ⟨by rfl, ?_⟩) ?_ ?_
            rotate_left
            · intro w'
              go_simp
              with_reducible rfl
            rotate_left
            · simp only [Act.put, List.setIfInBounds_toArray, List.set_cons_zero, List.set_cons_succ, i64_w, i32_w]
              rfl
            refine take_ (i := 3) (N := some 84) (v := ?_) (a' := ?_) #[true, true, true, true, false, true, true, true, false, false] rfl rfl (by kernel_rfl) (fun _ _ _ h => h) (Or.inl ⟨by rfl, ?_⟩) hHeld ?_ ?_
            rotate_left
            · rintro w' ⟨s0, s1⟩
              go_simp
              with_reducible rfl
            rotate_left
            · simp only [Act.put, List.setIfInBounds_toArray, List.set_cons_zero, List.set_cons_succ, i64_w, i32_w]
              rfl
            refine pure_ (i := 4) (N := some 85) (v := ?_) (a' := ?_) #[true, true, true, true, true, true, true, true, false, false] rfl rfl (by kernel_rfl) (fun _ _ _ h => h) (Or.inl ⟨by rfl, ?_⟩) ?_ ?_
            rotate_left
            · intro w'
              go_simp
              with_reducible rfl
            rotate_left
            · simp only [Act.put, List.setIfInBounds_toArray, List.set_cons_zero, List.set_cons_succ, i64_w, i32_w]
              rfl
            refine take_ (i := 8) (N := some 89) (v := ?_) (a' := ?_) #[true, true, true, true, true, true, true, true, true, false] rfl rfl (by kernel_rfl) (fun _ _ _ h => h) (Or.inl ⟨by rfl, ?_⟩) hHeld ?_ ?_
            rotate_left
            · rintro w' ⟨s0, s1⟩
              go_simp
              with_reducible rfl
            rotate_left
            · simp only [Act.put, List.setIfInBounds_toArray, List.set_cons_zero, List.set_cons_succ, i64_w, i32_w]
              rfl
            refine pure_ (i := 9) (N := some 90) (v := ?_) (a' := ?_) #[true, true, true, true, true, true, true, true, true, true] rfl rfl (by kernel_rfl) (fun _ _ _ h => h) (Or.inl ⟨by rfl, ?_⟩) ?_ ?_
            rotate_left
            · intro w'
              go_simp
              with_reducible rfl
            rotate_left
            · simp only [Act.put, List.setIfInBounds_toArray, List.set_cons_zero, List.set_cons_succ, i64_w, i32_w]
              rfl
            refine done_ (by kernel_rfl) ?_
            have hTq := HTr.out.keep ((Ext.refl [] _).drew) (by simp); have hBq := HBr.out.drew; have hEq := HEr.out.drew
            clear hcv hcm her hlbr
            generalize wr.drew = wq at hTq hBq hEq ⊢
            have HTq := Lib.hid hTq; have HBq := Lib.hid hBq; have HEq := Lib.hid hEq
            clear HTr HBr HEr hTq hBq hEq hlb
            go_wp2_with fail
            go_loopw [8, 9] (fun kv iv wr => ∃ (i : Nat), 1 ≤ i ∧ i ≤ n ∧ iv = .int .i64 i ∧ kv = .int .i64 (eldA xs i) ∧ Ext [] wq wr) (fun _ iv _ => n - (intOf iv).toNat)
            case atStart =>
              refine ⟨1, Nat.le_refl _, by omega, rfl, ?_, Ext.refl _ _⟩
              have : eldA xs 1 = 0 := by have := eldA_lt (xs := xs) (k := 1) (by omega); omega
              rw [this]; rfl
            case round =>
              obtain ⟨i, hi1, hin, rfl, rfl, her⟩ := hrel
              have hr := HTq.out.keep her (by simp)
              have hcv : wr.cell? ⟨b, 1, none⟩ = some (.slice va n cap) := hr.blk.cell 1
              have hek := eldA_lt (xs := xs) hi1
              by_cases hlt : i < n
              · have d2 : decide (i < n) = true := decide_eq_true hlt
                obtain ⟨x, hxk⟩ : ∃ x, xs[i]? = some x := ⟨_, List.getElem?_eq_getElem (by rw [← HN.out]; exact hlt)⟩
                obtain ⟨y, hyk⟩ : ∃ y, xs[eldA xs i]? = some y := ⟨_, List.getElem?_eq_getElem (by rw [← HN.out]; omega)⟩
                have hst := eldA_step hxk hyk
                obtain ⟨gb, rfl, hgl⟩ := hr.row.addr (by omega)
                have l5 := hr.row.cell encE_ok.len hxk 5 (by omega)
                have m5 := hr.row.cell encE_ok.len hyk 5 (by omega)
                generalize eldA xs i = q at *
                simp only [encE, Nat.add_zero, List.getElem?_cons_zero, List.getElem?_cons_succ] at l5 m5
                have b1 : (0 : Int) ≤ (i : Int) := by omega
                have b2 : (i : Int) < (n : Int) := by omega
                have b3 : (0 : Int) ≤ (q : Int) := by omega
                have b4 : (q : Int) < (n : Int) := by omega
                have HST := Lib.hid hst
                clear hr hxk hyk hst
                by_cases hc : x.til < y.til
                · have d3 : decide (x.til < y.til) = true := decide_eq_true hc
                  rw [if_pos hc] at HST
                  go_wp2_with fail
                  go_quiet (fail)
                  go_wp2_with fail
                  exact ⟨⟨i + 1, by omega, by omega, by go_num, by rw [HST.out], her.drewN _⟩, by simp [intOf]; omega⟩
                · have d3 : decide (x.til < y.til) = false := decide_eq_false hc
                  rw [if_neg hc] at HST
                  go_wp2_with fail
                  go_quiet (fail)
                  go_wp2_with fail
                  exact ⟨⟨i + 1, by omega, by omega, by go_num, by rw [HST.out], her.drewN _⟩, by simp [intOf]; omega⟩
              · have d2 : decide (i < n) = false := decide_eq_false hlt
                have hie : i = n := by omega
                have hel : eldA xs i = eldM xs := by unfold eldM; rw [hie, HN.out]
                rw [hel] at hek ⊢
                have hlt : eldM xs < n := by omega
                generalize eldM xs = k at hek hlt HM ⊢
                have hBw := HBq.out.keep her (by simp)
                have hEw := HEq.out.trans her (by simp)
                obtain ⟨gb, rfl, hgl⟩ := hr.row.addr hn0
                have hcap : n ≤ cap := hr.row.cap_le
                have hlb := hr.blk.lt
                have b1 : (0 : Int) ≤ (k : Int) := by omega
                have HH := Lib.hid hr; have HBw := Lib.hid hBw; have HEw := Lib.hid hEw
                clear hr hBw hEw HTq HBq HEq her hel hie hek hgl
                generalize wr = w at hcv hlb HH HBw HEw ⊢
                go_wp2_with fail
                skip
                have hsa := HH.out.row.drew.takeSl encE_ok.len (i := k) (by omega) cap
                have hl1 : LenIs ([] : List Ent) (xs.take k) k := by unfold LenIs; rw [List.length_take]; have := HN.out; simp; omega
                have hl2 : LenIs (xs.take k) (xs.drop (k + 1)) (n - 1) := by unfold LenIs; rw [List.length_take, List.length_drop]; have := HN.out; omega
                have hgo : ∀ v' : Value, v' = .slice none 0 0 → ∀ g, v'.ownBlock = some g → w.heap.size ≤ g := by intro v' h g hg; subst h; simp [Value.ownBlock] at hg
                have HLB := Lib.hid hlb; have HL1 := Lib.hid hl1; have HL2 := Lib.hid hl2; have HSA := Lib.hid hsa; have HCV := Lib.hid hcv
                clear hl1 hl2 hsa hgo
                have hsb : Sl encE w.drew (.slice (if cap = k + 1 then some ⟨gb, 0, none⟩ else some ⟨gb, (k + 1) * 6, none⟩) (n - (k + 1)) (cap - (k + 1))) (xs.drop (k + 1)) := HH.out.row.drew.tailSl encE_ok.len (i := k + 1) (by omega)
                have HSB := Lib.hid hsb
                clear hsb
                have f1 : (k : Int) ≤ (cap : Int) := by omega
                have f2 : (k : Int) + 1 ≤ (n : Int) := by omega
                have f3 : (0 : Int) ≤ (k : Int) + 1 := by omega
                have f4 : ((k : Int) + 1).toNat = k + 1 := by omega
                have g63 : k ≤ 1000000 := by omega
                have g64 : n - 1 ≤ 1000000 := by omega
                have f5 : wrap64 ((k : Int) + 1) = (k : Int) + 1 := by unfold wrap64; omega
                refine start_ (n := 19) (S := fun w' => w'.cell? ⟨b, 1, none⟩ = some (.slice (some ⟨gb, 0, none⟩) n cap)) (ds := [18]) #[false, false, false, false, false, false, false, false, false, false, false, false, false, false, false, false, false, false, false] (by kernel_rfl) rfl rfl (hcv) (fun hHeld => ?_)
                refine pure_ (i := 0) (N := some 118) (v := ?_) (a' := ?_) #[true, false, false, false, false, false, false, false, false, false, false, false, false, false, false, false, false, false, false] rfl rfl (by kernel_rfl) (fun _ _ _ h => h) (Or.inl ⟨by rfl, ?_⟩) ?_ ?_
                rotate_left
                · intro w'
                  go_simp
                  with_reducible rfl
                rotate_left
                · simp only [Act.put, List.setIfInBounds_toArray, List.set_cons_zero, List.set_cons_succ, i64_w, i32_w]
                  rfl
                refine pure_ (i := 1) (N := some 119) (v := ?_) (a' := ?_) #[true, true, false, false, false, false, false, false, false, false, false, false, false, false, false, false, false, false, false] rfl rfl (by kernel_rfl) (fun _ _ _ h => h) (Or.inl ⟨by rfl, ?_⟩) ?_ ?_
                rotate_left
                · intro w'
                  go_simp
                  with_reducible rfl
                rotate_left
                · simp only [Act.put, List.setIfInBounds_toArray, List.set_cons_zero, List.set_cons_succ, i64_w, i32_w]
                  rfl
                refine pure_ (i := 2) (N := some 120) (v := ?_) (a' := ?_) #[true, true, true, false, false, false, false, false, false, false, false, false, false, false, false, false, false, false, false] rfl rfl (by kernel_rfl) (fun _ _ _ h => h) (Or.inl ⟨by rfl, ?_⟩) ?_ ?_
                rotate_left
                · intro w'
                  go_simp
                  with_reducible rfl
                rotate_left
                · simp only [Act.put, List.setIfInBounds_toArray, List.set_cons_zero, List.set_cons_succ, i64_w, i32_w]
                  rfl
                refine pure_ (i := 3) (N := some 121) (v := ?_) (a' := ?_) #[true, true, true, true, false, false, false, false, false, false, false, false, false, false, false, false, false, false, false] rfl rfl (by kernel_rfl) (fun _ _ _ h => h) (Or.inl ⟨by rfl, ?_⟩) ?_ ?_
                rotate_left
                · intro w'
                  go_simp
                  with_reducible rfl
                rotate_left
                · simp only [Act.put, List.setIfInBounds_toArray, List.set_cons_zero, List.set_cons_succ, i64_w, i32_w]
                  rfl
                refine pure_ (i := 5) (N := some 123) (v := ?_) (a' := ?_) #[true, true, true, true, false, true, false, false, false, false, false, false, false, false, false, false, false, false, false] rfl rfl (by kernel_rfl) (fun _ _ _ h => h) (Or.inl ⟨by rfl, ?_⟩) ?_ ?_
                rotate_left
                · intro w'
                  go_simp
                  with_reducible rfl
                rotate_left
                · simp only [Act.put, List.setIfInBounds_toArray, List.set_cons_zero, List.set_cons_succ, i64_w, i32_w]
                  rfl
                refine pure_ (i := 8) (N := some 126) (v := ?_) (a' := ?_) #[true, true, true, true, false, true, false, false, true, false, false, false, false, false, false, false, false, false, false] rfl rfl (by kernel_rfl) (fun _ _ _ h => h) (Or.inl ⟨by rfl, ?_⟩) ?_ ?_
                rotate_left
                · intro w'
                  go_simp
                  with_reducible rfl
                rotate_left
                · simp only [Act.put, List.setIfInBounds_toArray, List.set_cons_zero, List.set_cons_succ, i64_w, i32_w]
                  rfl
                refine pure_ (i := 9) (N := some 127) (v := ?_) (a' := ?_) #[true, true, true, true, false, true, false, false, true, true, false, false, false, false, false, false, false, false, false] rfl rfl (by kernel_rfl) (fun _ _ _ h => h) (Or.inl ⟨by rfl, ?_⟩) ?_ ?_
                rotate_left
                · intro w'
                  go_simp
                  with_reducible rfl
                rotate_left
                · simp only [Act.put, List.setIfInBounds_toArray, List.set_cons_zero, List.set_cons_succ, i64_w, i32_w]
                  rfl
                refine pure_ (i := 10) (N := some 128) (v := ?_) (a' := ?_) #[true, true, true, true, false, true, false, false, true, true, true, false, false, false, false, false, false, false, false] rfl rfl (by kernel_rfl) (fun _ _ _ h => h) (Or.inl ⟨by rfl, ?_⟩) ?_ ?_
                rotate_left
                · intro w'
                  go_simp
                  with_reducible rfl
                rotate_left
                · simp only [Act.put, List.setIfInBounds_toArray, List.set_cons_zero, List.set_cons_succ, i64_w, i32_w]
                  rfl
                refine pure_ (i := 12) (N := some 130) (v := ?_) (a' := ?_) #[true, true, true, true, false, true, false, false, true, true, true, false, true, false, false, false, false, false, false] rfl rfl (by kernel_rfl) (fun _ _ _ h => h) (Or.inl ⟨by rfl, ?_⟩) ?_ ?_
                rotate_left
                · intro w'
                  go_simp
                  with_reducible rfl
                rotate_left
                · simp only [Act.put, List.setIfInBounds_toArray, List.set_cons_zero, List.set_cons_succ, i64_w, i32_w]
                  rfl
                refine pure_ (i := 13) (N := some 131) (v := ?_) (a' := ?_) #[true, true, true, true, false, true, false, false, true, true, true, false, true, true, false, false, false, false, false] rfl rfl (by kernel_rfl) (fun _ _ _ h => h) (Or.inl ⟨by rfl, ?_⟩) ?_ ?_
                rotate_left
                · intro w'
                  go_simp
                  with_reducible rfl
                rotate_left
                · simp only [Act.put, List.setIfInBounds_toArray, List.set_cons_zero, List.set_cons_succ, i64_w, i32_w]
                  rfl
                refine take_ (i := 4) (N := some 122) (v := ?_) (a' := ?_) #[true, true, true, true, true, true, false, false, true, true, true, false, true, true, false, false, false, false, false] rfl rfl (by kernel_rfl) (fun _ _ _ h => h) (Or.inl ⟨by rfl, ?_⟩) hHeld ?_ ?_
                rotate_left
                · intro w' s0
                  go_simp
                  with_reducible rfl
                rotate_left
                · simp only [Act.put, List.setIfInBounds_toArray, List.set_cons_zero, List.set_cons_succ, i64_w, i32_w]
                  rfl
                refine pure_ (i := 6) (N := some 124) (v := ?_) (a' := ?_) #[true, true, true, true, true, true, true, false, true, true, true, false, true, true, false, false, false, false, false] rfl rfl (by kernel_rfl) (fun _ _ _ h => h) (Or.inl ⟨by rfl, ?_⟩) ?_ ?_
                rotate_left
                · intro w'
                  go_simp
                  with_reducible rfl
                rotate_left
                · simp only [Act.put, List.setIfInBounds_toArray, List.set_cons_zero, List.set_cons_succ, i64_w, i32_w]
                  rfl
                refine take_ (i := 11) (N := some 129) (v := ?_) (a' := ?_) #[true, true, true, true, true, true, true, false, true, true, true, true, true, true, false, false, false, false, false] rfl rfl (by kernel_rfl) (fun _ _ _ h => h) (Or.inl ⟨by rfl, ?_⟩) hHeld ?_ ?_
                rotate_left
                · intro w' s0
                  go_simp
                  with_reducible rfl
                rotate_left
                · simp only [Act.put, List.setIfInBounds_toArray, List.set_cons_zero, List.set_cons_succ, i64_w, i32_w]
                  rfl
                refine pure_ (i := 14) (N := some 132) (v := ?_) (a' := ?_) #[true, true, true, true, true, true, true, false, true, true, true, true, true, true, true, false, false, false, false] rfl rfl (by kernel_rfl) (fun _ _ _ h => h) (Or.inl ⟨by rfl, ?_⟩) ?_ ?_
                rotate_left
                · intro w'
                  go_simp
                  with_reducible rfl
                rotate_left
                · simp only [Act.put, List.setIfInBounds_toArray, List.set_cons_zero, List.set_cons_succ, i64_w, i32_w]
                  rfl
                refine one_ (i := 7) (N := some 125) #[true, true, true, true, true, true, true, true, true, true, true, true, true, true, true, false, false, false, false] rfl rfl (by kernel_rfl) (by decide) (fun K hK => ?_)
                refine step_appN tyE encE_ok (by rfl) _ _ (by rfl) (Rw.nil w.drew) (by rfl) HSA.out (by rfl) HL1.out g63 ?_
                intro a1 c1 w1 hr1 hS1 hg1
                have he1 : Ext [] w w1 := Ext.of_drew (hS1 [] (by simp [Value.ownBlock]))
                have hg1' : ∀ g, (Value.slice a1 k c1).ownBlock = some g → w.heap.size ≤ g := fun g hg => (hg1 g hg).elim (fun h => by simp [Value.ownBlock] at h) (fun h => h)
                rw [List.nil_append] at hr1
                clear hS1 hg1
                refine hK.out _ _ (((he1.cell (p := ⟨b, 1, none⟩) HLB.out (by simp)).trans HCV.out)) (fun hHeld => ?_)
                clear hK K
                refine norm_ (a' := ?_) ?_ ?_
                rotate_left
                · show Act.put _ (some 125) _ = _
                  simp only [Act.put, List.setIfInBounds_toArray, List.set_cons_zero, List.set_cons_succ, i64_w, i32_w]
                  rfl
                refine one_ (i := 15) (N := some 133) #[true, true, true, true, true, true, true, true, true, true, true, true, true, true, true, true, false, false, false] rfl rfl (by kernel_rfl) (by decide) (fun K hK => ?_)
                refine step_appN tyE encE_ok (by rfl) _ _ (by rfl) hr1 (by rfl) (HSB.out.keep (Ext.of_drew_left he1) (by simp)) (by rfl) HL2.out g64 ?_
                intro a2 c2 w2 hr2 hS2 hg2
                have he2 : Ext [] w w2 := fresh_app he1 hg1' hS2
                have hfz : w2.frozen? ⟨b, 1, none⟩ = false := (he2.frozen (p := ⟨b, 1, none⟩) HLB.out (by simp)).trans (HH.out.blk.free 1)
                refine hK.out _ _ (((he2.cell (p := ⟨b, 1, none⟩) HLB.out (by simp)).trans HCV.out)) (fun hHeld => ?_)
                clear hK K
                refine norm_ (a' := ?_) ?_ ?_
                rotate_left
                · show Act.put _ (some 133) _ = _
                  simp only [Act.put, List.setIfInBounds_toArray, List.set_cons_zero, List.set_cons_succ, i64_w, i32_w]
                  rfl
                refine pure_ (i := 16) (N := some 134) (v := ?_) (a' := ?_) #[true, true, true, true, true, true, true, true, true, true, true, true, true, true, true, true, true, false, false] rfl rfl (by kernel_rfl) (fun _ _ _ h => h) (Or.inl ⟨by rfl, ?_⟩) ?_ ?_
                rotate_left
                · intro w'
                  go_simp
                  with_reducible rfl
                rotate_left
                · simp only [Act.put, List.setIfInBounds_toArray, List.set_cons_zero, List.set_cons_succ, i64_w, i32_w]
                  rfl
                refine pure_ (i := 17) (N := some 135) (v := ?_) (a' := ?_) #[true, true, true, true, true, true, true, true, true, true, true, true, true, true, true, true, true, true, false] rfl rfl (by kernel_rfl) (fun _ _ _ h => h) (Or.inl ⟨by rfl, ?_⟩) ?_ ?_
                rotate_left
                · intro w'
                  go_simp
                  with_reducible rfl
                rotate_left
                · simp only [Act.put, List.setIfInBounds_toArray, List.set_cons_zero, List.set_cons_succ, i64_w, i32_w]
                  rfl
                refine last_ (i := 18) (N := none) #[true, true, true, true, true, true, true, true, true, true, true, true, true, true, true, true, true, true, true] rfl rfl (by kernel_rfl) (by decide) (fun K hK => ?_)
                refine skip_ (w1 := ?_) (by rfl) rfl ?_ ?_
                rotate_left
                · go_simp
                  rfl
                refine hK.out _ _ ?_
                clear hK K
                refine done_ (by kernel_rfl) ?_
                have hfin := HH.out.replaced he2 hr2 (fun g hg => (hg2 g hg).elim (hg1' g) (fun h => Nat.le_trans he1.size h)) 1 (by simp)
                have HF := Lib.hid hfin
                clear hfin hr1 hr2 hS2 hg2 hg1' f5 f4 f1 f2 f3
                go_wp2_with fail

                all_goals
                  have hT := HF.out.1
                  have hlbB := HBw.out.lt
                  have hBq := (HBw.out.keep he2 (by simp)).set_ne (p := ⟨b, 1, none⟩) hbB (.slice a2 (n - 1) c2)
                  have hE := HEw.out.trans HF.out.2.1 (fun x hx => by simp at hx; subst hx; exact HSS1.out x (by simp))
                  have hwsz := HEw.out.size
                  have hvB : Hid (∀ y, (Value.slice a2 (n - 1) c2).ownBlock = some y → y ≠ B) := fun y hy => by
                    rcases HF.out.2.2 y (by simp [hy]) with h8 | h8
                    · rcases List.mem_cons.1 h8 with rfl | h8
                      · exact hbB
                      · exact hvB.out y (by simpa using h8)
                    · omega
                  have HSS : Hid (∀ x ∈ b :: (Value.slice a2 (n - 1) c2).ownBlock.toList, x ∈ S ∨ w00.heap.size ≤ x) := fun x hx => (HF.out.2.2 x hx).elim (fun h8 => HSS1.out x h8) (fun h8 => .inr (by omega))
                  rw [← List.eraseIdx_eq_take_drop_succ] at hT
                  generalize w2.setCell ⟨b, 1, none⟩ (.slice a2 (n - 1) c2) = wq at hT hBq hE ⊢
                  clear HF HBw HEw HH HSS1 hlbB hwsz
                  generalize hzs : xs.eraseIdx k = zs at hT HM
                  clear hzs
                  have hm3n : n - 1 ≤ n := by omega
                  have hm3l : Hid (n - 1 = zs.length) := hT.row.len
                  clear he1 he2 hfz
                  generalize ha : (⟨ao, au, ac, am, ah, atil⟩ : Ent) = a at HM
                  have hBq : Blk wq B (encE a).toArray 35 := by rw [← ha]; exact hBq
                  have HA := Lib.hid ha
                  clear ha
                  skip
                  have hm3 : (n - 1) < 100000 := by omega
                  have h63 : (n - 1) + 1 ≤ 1000000 := by omega
                  have hlen : LenIs zs [a] ((n - 1) + 1) := by unfold LenIs; rw [← hm3l.out]; rfl
                  have HT := Lib.hid hT; have HE := Lib.hid hE
                  have hcv : wq.drew.cell? ⟨b, 1, none⟩ = some (.slice a2 (n - 1) c2) := hT.blk.cell 1
                  have k0 : wq.drew.cell? ⟨B, 0, none⟩ = some (.string a.org) := hBq.cell 0
                  have k1 : wq.drew.cell? ⟨B, 1, none⟩ = some (.string a.url) := hBq.cell 1
                  have k2 : wq.drew.cell? ⟨B, 2, none⟩ = some (.bool a.creds) := hBq.cell 2
                  have k3 : wq.drew.cell? ⟨B, 3, none⟩ = some (.string a.meth) := hBq.cell 3
                  have k4 : wq.drew.cell? ⟨B, 4, none⟩ = some (.string a.head) := hBq.cell 4
                  have k5 : wq.drew.cell? ⟨B, 5, none⟩ = some (.int .u64 a.til) := hBq.cell 5
                  have hsl := Sl.new (enc := encE) wq.drew a 35
                  have hrw := (hT.row.drew).alloc (.cells (encE a).toArray 35 (0, 0))
                  have hbb : ∀ o, Blk (wq.drew.alloc o) b #[.int .i64 most, .slice a2 (n - 1) c2] 71 := fun o => hT.blk.drew.alloc o
                  have hbh : ∀ o, Blk (wq.drew.alloc o) B (encE a).toArray 35 := fun o => hBq.drew.alloc o
                  have hB3 : ∀ y, (Value.slice a2 (n - 1) c2).ownBlock = some y → y ≠ B := hvB.out
                  have HSL := Lib.hid hsl; have HRW := Lib.hid hrw; have HBB := Lib.hid hbb; have HBH := Lib.hid hbh; have HB3 := Lib.hid hB3
                  have hltb := hT.blk.lt
                  have hltB := hBq.lt
                  clear hT hE hsl hrw hbb hbh hBq hB3
                  refine start_ (n := 11) (S := fun w' => w'.cell? ⟨b, 1, none⟩ = some (.slice a2 (n - 1) c2) ∧ w'.cell? ⟨B, 0, none⟩ = some (.string a.org) ∧ w'.cell? ⟨B, 1, none⟩ = some (.string a.url) ∧ w'.cell? ⟨B, 2, none⟩ = some (.bool a.creds) ∧ w'.cell? ⟨B, 3, none⟩ = some (.string a.meth) ∧ w'.cell? ⟨B, 4, none⟩ = some (.string a.head) ∧ w'.cell? ⟨B, 5, none⟩ = some (.int .u64 a.til)) (ds := [10]) #[false, false, false, false, false, false, false, false, false, false, false] (by kernel_rfl) rfl rfl ⟨hcv, k0, k1, k2, k3, k4, k5⟩ (fun hHeld => ?_)
                  refine pure_ (i := 0) (N := some 136) (v := ?_) (a' := ?_) #[true, false, false, false, false, false, false, false, false, false, false] rfl rfl (by kernel_rfl) (fun _ _ _ h => h) (Or.inl ⟨by rfl, ?_⟩) ?_ ?_
                  rotate_left
                  · intro w'
                    go_simp
                    with_reducible rfl
                  rotate_left
                  · simp only [Act.put, List.setIfInBounds_toArray, List.set_cons_zero, List.set_cons_succ, i64_w, i32_w]
                    rfl
                  refine pure_ (i := 1) (N := some 137) (v := ?_) (a' := ?_) #[true, true, false, false, false, false, false, false, false, false, false] rfl rfl (by kernel_rfl) (fun _ _ _ h => h) (Or.inl ⟨by rfl, ?_⟩) ?_ ?_
                  rotate_left
                  · intro w'
                    go_simp
                    with_reducible rfl
                  rotate_left
                  · simp only [Act.put, List.setIfInBounds_toArray, List.set_cons_zero, List.set_cons_succ, i64_w, i32_w]
                    rfl
                  refine pure_ (i := 2) (N := some 138) (v := ?_) (a' := ?_) #[true, true, true, false, false, false, false, false, false, false, false] rfl rfl (by kernel_rfl) (fun _ _ _ h => h) (Or.inl ⟨by rfl, ?_⟩) ?_ ?_
                  rotate_left
                  · intro w'
                    go_simp
                    with_reducible rfl
                  rotate_left
                  · simp only [Act.put, List.setIfInBounds_toArray, List.set_cons_zero, List.set_cons_succ, i64_w, i32_w]
                    rfl
                  refine pure_ (i := 3) (N := some 139) (v := ?_) (a' := ?_) #[true, true, true, true, false, false, false, false, false, false, false] rfl rfl (by kernel_rfl) (fun _ _ _ h => h) (Or.inl ⟨by rfl, ?_⟩) ?_ ?_
                  rotate_left
                  · intro w'
                    go_simp
                    with_reducible rfl
                  rotate_left
                  · simp only [Act.put, List.setIfInBounds_toArray, List.set_cons_zero, List.set_cons_succ, i64_w, i32_w]
                    rfl
                  refine take_ (i := 4) (N := some 140) (v := ?_) (a' := ?_) #[true, true, true, true, true, false, false, false, false, false, false] rfl rfl (by kernel_rfl) (fun _ _ _ h => h) (Or.inl ⟨by rfl, ?_⟩) hHeld ?_ ?_
                  rotate_left
                  · rintro w' ⟨s0, s1, s2, s3, s4, s5, s6⟩
                    go_simp
                    with_reducible rfl
                  rotate_left
                  · simp only [Act.put, List.setIfInBounds_toArray, List.set_cons_zero, List.set_cons_succ, i64_w, i32_w]
                    rfl
                  refine take_ (i := 5) (N := some 141) (v := ?_) (a' := ?_) #[true, true, true, true, true, true, false, false, false, false, false] rfl rfl (by kernel_rfl) (fun _ _ _ h => h) (Or.inl ⟨by rfl, ?_⟩) hHeld ?_ ?_
                  rotate_left
                  · rintro w' ⟨s0, s1, s2, s3, s4, s5, s6⟩
                    go_simp
                    with_reducible rfl
                  rotate_left
                  · simp only [Act.put, List.setIfInBounds_toArray, List.set_cons_zero, List.set_cons_succ, i64_w, i32_w]
                    rfl
                  refine one_ (i := 6) (N := some 142) #[true, true, true, true, true, true, true, false, false, false, false] rfl rfl (by kernel_rfl) (by decide) (fun K hK => ?_)
                  refine value_ (w1 := ?_) (v := ?_) (by rfl) rfl ?_ ?_
                  rotate_left 2
                  · go_simp
                    constructor
                    · rfl
                    · rfl
                  refine hK.out _ _ ⟨((HBB.out _).cell 1), ((HBH.out _).cell 0), ((HBH.out _).cell 1), ((HBH.out _).cell 2), ((HBH.out _).cell 3), ((HBH.out _).cell 4), ((HBH.out _).cell 5)⟩ (fun hHeld => ?_)
                  clear hK K
                  refine norm_ (a' := ?_) ?_ ?_
                  rotate_left
                  · show Act.put _ (some 142) _ = _
                    simp only [Act.put, List.setIfInBounds_toArray, List.set_cons_zero, List.set_cons_succ, i64_w, i32_w]
                    rfl
                  refine one_ (i := 7) (N := some 143) #[true, true, true, true, true, true, true, true, false, false, false] rfl rfl (by kernel_rfl) (by decide) (fun K hK => ?_)
                  refine step_appN tyE encE_ok (by rfl) _ _ (by rfl) HRW.out (by rfl) HSL.out (by rfl) hlen h63 ?_
                  intro a4 c4 w7 hr7 hS7 hg7
                  have hb7 := (HT.out.blk_of (((Ext.refl [] _).drew).alloc _) hS7)
                  have hh7 := (HBH.out _).keep (hS7 (Value.slice a2 (n - 1) c2).ownBlock.toList (by simp +contextual)) (by intro hq; exact HB3.out B (by simpa using hq) rfl)
                  have hfz : w7.frozen? ⟨b, 1, none⟩ = false := hb7.free 1
                  refine hK.out _ _ ⟨(hb7.cell 1), (hh7.cell 0), (hh7.cell 1), (hh7.cell 2), (hh7.cell 3), (hh7.cell 4), (hh7.cell 5)⟩ (fun hHeld => ?_)
                  clear hK K
                  refine norm_ (a' := ?_) ?_ ?_
                  rotate_left
                  · show Act.put _ (some 143) _ = _
                    simp only [Act.put, List.setIfInBounds_toArray, List.set_cons_zero, List.set_cons_succ, i64_w, i32_w]
                    rfl
                  refine pure_ (i := 8) (N := some 144) (v := ?_) (a' := ?_) #[true, true, true, true, true, true, true, true, true, false, false] rfl rfl (by kernel_rfl) (fun _ _ _ h => h) (Or.inl ⟨by rfl, ?_⟩) ?_ ?_
                  rotate_left
                  · intro w'
                    go_simp
                    with_reducible rfl
                  rotate_left
                  · simp only [Act.put, List.setIfInBounds_toArray, List.set_cons_zero, List.set_cons_succ, i64_w, i32_w]
                    rfl
                  refine pure_ (i := 9) (N := some 145) (v := ?_) (a' := ?_) #[true, true, true, true, true, true, true, true, true, true, false] rfl rfl (by kernel_rfl) (fun _ _ _ h => h) (Or.inl ⟨by rfl, ?_⟩) ?_ ?_
                  rotate_left
                  · intro w'
                    go_simp
                    with_reducible rfl
                  rotate_left
                  · simp only [Act.put, List.setIfInBounds_toArray, List.set_cons_zero, List.set_cons_succ, i64_w, i32_w]
                    rfl
                  refine last_ (i := 10) (N := none) #[true, true, true, true, true, true, true, true, true, true, true] rfl rfl (by kernel_rfl) (by decide) (fun K hK => ?_)
                  refine skip_ (w1 := ?_) (by rfl) rfl ?_ ?_
                  rotate_left
                  · go_simp
                    rfl
                  refine hK.out _ _ ?_
                  clear hK K
                  refine done_ (by kernel_rfl) ?_
                  have hfin := HT.out.appended (((Ext.refl [] _).drew).alloc _) hr7 hS7 (fun g hg => (hg7 g hg).imp_right (fun h => Nat.le_trans ((((Ext.refl [] wq).drew).alloc (.cells (encE a).toArray 35 (0, 0))).size) h)) 1 (by simp)
                  have HF := Lib.hid hfin
                  have hs6 := HE.out.size
                  clear hfin hr7 hS7 hg7 hb7 hh7
                  go_wp2_with fail
                  refine bodyPost_ret (v := .bool true) (by simp [results, Try.results34, go_sem]) rfl ?_
                  have ha9 := HA.out
                  subst ha9
                  exact ⟨by rw [HM.out], _, ⟨_, by rw [HM.out]; exact HF.out.1, rfl⟩, HE.out.trans HF.out.2.1 (fun x hx => HSS.out x hx), fun x hx => (HF.out.2.2 x hx).elim (fun h1 => HSS.out x h1) (fun h1 => .inr (by omega))⟩

          · rw [if_neg hm] at HM
            have dm : decide (most ≤ (n : Int)) = false := decide_eq_false hm
            go_wp2_with fail
            refine start_ (n := 10) (S := fun w' => w'.cell? ⟨b, 1, none⟩ = some (.slice va n cap) ∧ w'.cell? ⟨b, 0, none⟩ = some (.int .i64 most)) (ds := []) #[false, false, false, false, false, false, false, false, false, false] (by kernel_rfl) rfl rfl ⟨hcv, hcm⟩ (fun hHeld => ?_)
            refine pure_ (i := 0) (N := some 81) (v := ?_) (a' := ?_) #[true, false, false, false, false, false, false, false, false, false] rfl rfl (by kernel_rfl) (fun _ _ _ h => h) (Or.inl ⟨by rfl, ?_⟩) ?_ ?_
            rotate_left
            · intro w'
              go_simp
              with_reducible rfl
            rotate_left
            · simp only [Act.put, List.setIfInBounds_toArray, List.set_cons_zero, List.set_cons_succ, i64_w, i32_w]
              rfl
            refine pure_ (i := 1) (N := some 82) (v := ?_) (a' := ?_) #[true, true, false, false, false, false, false, false, false, false] rfl rfl (by kernel_rfl) (fun _ _ _ h => h) (Or.inl ⟨by rfl, ?_⟩) ?_ ?_
            rotate_left
            · intro w'
              go_simp
              with_reducible rfl
            rotate_left
            · simp only [Act.put, List.setIfInBounds_toArray, List.set_cons_zero, List.set_cons_succ, i64_w, i32_w]
              rfl
            refine pure_ (i := 2) (N := some 83) (v := ?_) (a' := ?_) #[true, true, true, false, false, false, false, false, false, false] rfl rfl (by kernel_rfl) (fun _ _ _ h => h) (Or.inl ⟨by rfl, ?_⟩) ?_ ?_
            rotate_left
            · intro w'
              go_simp
              with_reducible rfl
            rotate_left
            · simp only [Act.put, List.setIfInBounds_toArray, List.set_cons_zero, List.set_cons_succ, i64_w, i32_w]
              rfl
            refine pure_ (i := 5) (N := some 86) (v := ?_) (a' := ?_) #[true, true, true, false, false, true, false, false, false, false] rfl rfl (by kernel_rfl) (fun _ _ _ h => h) (Or.inl ⟨by rfl, ?_⟩) ?_ ?_
            rotate_left
            · intro w'
              go_simp
              with_reducible rfl
            rotate_left
            · simp only [Act.put, List.setIfInBounds_toArray, List.set_cons_zero, List.set_cons_succ, i64_w, i32_w]
              rfl
            refine pure_ (i := 6) (N := some 87) (v := ?_) (a' := ?_) #[true, true, true, false, false, true, true, false, false, false] rfl rfl (by kernel_rfl) (fun _ _ _ h => h) (Or.inl ⟨by rfl, ?_⟩) ?_ ?_
            rotate_left
            · intro w'
              go_simp
              with_reducible rfl
            rotate_left
            · simp only [Act.put, List.setIfInBounds_toArray, List.set_cons_zero, List.set_cons_succ, i64_w, i32_w]
              rfl
            refine pure_ (i := 7) (N := some 88) (v := ?_) (a' := ?_) #[true, true, true, false, false, true, true, true, false, false] rfl rfl (by kernel_rfl) (fun _ _ _ h => h) (Or.inl ⟨by rfl, ?_⟩) ?_ ?_
            rotate_left
            · intro w'
              go_simp
              with_reducible rfl
            rotate_left
            · simp only [Act.put, List.setIfInBounds_toArray, List.set_cons_zero, List.set_cons_succ, i64_w, i32_w]
              rfl
            refine take_ (i := 3) (N := some 84) (v := ?_) (a' := ?_) #[true, true, true, true, false, true, true, true, false, false] rfl rfl (by kernel_rfl) (fun _ _ _ h => h) (Or.inl ⟨by rfl, ?_⟩) hHeld ?_ ?_
            rotate_left
            · rintro w' ⟨s0, s1⟩
              go_simp
              with_reducible rfl
            rotate_left
            · simp only [Act.put, List.setIfInBounds_toArray, List.set_cons_zero, List.set_cons_succ, i64_w, i32_w]
              rfl
            refine pure_ (i := 4) (N := some 85) (v := ?_) (a' := ?_) #[true, true, true, true, true, true, true, true, false, false] rfl rfl (by kernel_rfl) (fun _ _ _ h => h) (Or.inl ⟨by rfl, ?_⟩) ?_ ?_
            rotate_left
            · intro w'
              go_simp
              with_reducible rfl
            rotate_left
            · simp only [Act.put, List.setIfInBounds_toArray, List.set_cons_zero, List.set_cons_succ, i64_w, i32_w]
              rfl
            refine take_ (i := 8) (N := some 89) (v := ?_) (a' := ?_) #[true, true, true, true, true, true, true, true, true, false] rfl rfl (by kernel_rfl) (fun _ _ _ h => h) (Or.inl ⟨by rfl, ?_⟩) hHeld ?_ ?_
            rotate_left
            · rintro w' ⟨s0, s1⟩
              go_simp
              with_reducible rfl
            rotate_left
            · simp only [Act.put, List.setIfInBounds_toArray, List.set_cons_zero, List.set_cons_succ, i64_w, i32_w]
              rfl
            refine pure_ (i := 9) (N := some 90) (v := ?_) (a' := ?_) #[true, true, true, true, true, true, true, true, true, true] rfl rfl (by kernel_rfl) (fun _ _ _ h => h) (Or.inl ⟨by rfl, ?_⟩) ?_ ?_
            rotate_left
            · intro w'
              go_simp
              with_reducible rfl
            rotate_left
            · simp only [Act.put, List.setIfInBounds_toArray, List.set_cons_zero, List.set_cons_succ, i64_w, i32_w]
              rfl
            refine done_ (by kernel_rfl) ?_
            have hT := HTr.out.keep ((Ext.refl [] _).drew) (by simp); have hBq := HBr.out.drew; have hE := HEr.out.drew
            clear hcv hcm her hlbr
            generalize wr.drew = wq at hT hBq hE ⊢
            clear HTr HBr HEr hlb
            generalize xs = zs at hT HM HN
            have hm3n : n ≤ n := Nat.le_refl _
            have hm3l : Hid (n = zs.length) := hT.row.len
            have HSS := HSS1
            generalize ha : (⟨ao, au, ac, am, ah, atil⟩ : Ent) = a at HM
            have hBq : Blk wq B (encE a).toArray 35 := by rw [← ha]; exact hBq
            have HA := Lib.hid ha
            clear ha
            go_wp2_with fail
            skip
            have hm3 : n < 100000 := by omega
            have h63 : n + 1 ≤ 1000000 := by omega
            have hlen : LenIs zs [a] (n + 1) := by unfold LenIs; rw [← hm3l.out]; rfl
            have HT := Lib.hid hT; have HE := Lib.hid hE
            have hcv : wq.drew.cell? ⟨b, 1, none⟩ = some (.slice va n cap) := hT.blk.cell 1
            have k0 : wq.drew.cell? ⟨B, 0, none⟩ = some (.string a.org) := hBq.cell 0
            have k1 : wq.drew.cell? ⟨B, 1, none⟩ = some (.string a.url) := hBq.cell 1
            have k2 : wq.drew.cell? ⟨B, 2, none⟩ = some (.bool a.creds) := hBq.cell 2
            have k3 : wq.drew.cell? ⟨B, 3, none⟩ = some (.string a.meth) := hBq.cell 3
            have k4 : wq.drew.cell? ⟨B, 4, none⟩ = some (.string a.head) := hBq.cell 4
            have k5 : wq.drew.cell? ⟨B, 5, none⟩ = some (.int .u64 a.til) := hBq.cell 5
            have hsl := Sl.new (enc := encE) wq.drew a 35
            have hrw := (hT.row.drew).alloc (.cells (encE a).toArray 35 (0, 0))
            have hbb : ∀ o, Blk (wq.drew.alloc o) b #[.int .i64 most, .slice va n cap] 71 := fun o => hT.blk.drew.alloc o
            have hbh : ∀ o, Blk (wq.drew.alloc o) B (encE a).toArray 35 := fun o => hBq.drew.alloc o
            have hB3 : ∀ y, (Value.slice va n cap).ownBlock = some y → y ≠ B := hvB.out
            have HSL := Lib.hid hsl; have HRW := Lib.hid hrw; have HBB := Lib.hid hbb; have HBH := Lib.hid hbh; have HB3 := Lib.hid hB3
            have hltb := hT.blk.lt
            have hltB := hBq.lt
            clear hT hE hsl hrw hbb hbh hBq hB3
            refine start_ (n := 11) (S := fun w' => w'.cell? ⟨b, 1, none⟩ = some (.slice va n cap) ∧ w'.cell? ⟨B, 0, none⟩ = some (.string a.org) ∧ w'.cell? ⟨B, 1, none⟩ = some (.string a.url) ∧ w'.cell? ⟨B, 2, none⟩ = some (.bool a.creds) ∧ w'.cell? ⟨B, 3, none⟩ = some (.string a.meth) ∧ w'.cell? ⟨B, 4, none⟩ = some (.string a.head) ∧ w'.cell? ⟨B, 5, none⟩ = some (.int .u64 a.til)) (ds := [10]) #[false, false, false, false, false, false, false, false, false, false, false] (by kernel_rfl) rfl rfl ⟨hcv, k0, k1, k2, k3, k4, k5⟩ (fun hHeld => ?_)
            refine pure_ (i := 0) (N := some 136) (v := ?_) (a' := ?_) #[true, false, false, false, false, false, false, false, false, false, false] rfl rfl (by kernel_rfl) (fun _ _ _ h => h) (Or.inl ⟨by rfl, ?_⟩) ?_ ?_
            rotate_left
            · intro w'
              go_simp
              with_reducible rfl
            rotate_left
            · simp only [Act.put, List.setIfInBounds_toArray, List.set_cons_zero, List.set_cons_succ, i64_w, i32_w]
              rfl
            refine pure_ (i := 1) (N := some 137) (v := ?_) (a' := ?_) #[true, true, false, false, false, false, false, false, false, false, false] rfl rfl (by kernel_rfl) (fun _ _ _ h => h) (Or.inl ⟨by rfl, ?_⟩) ?_ ?_
            rotate_left
            · intro w'
              go_simp
              with_reducible rfl
            rotate_left
            · simp only [Act.put, List.setIfInBounds_toArray, List.set_cons_zero, List.set_cons_succ, i64_w, i32_w]
              rfl
            refine pure_ (i := 2) (N := some 138) (v := ?_) (a' := ?_) #[true, true, true, false, false, false, false, false, false, false, false] rfl rfl (by kernel_rfl) (fun _ _ _ h => h) (Or.inl ⟨by rfl, ?_⟩) ?_ ?_
            rotate_left
            · intro w'
              go_simp
              with_reducible rfl
            rotate_left
            · simp only [Act.put, List.setIfInBounds_toArray, List.set_cons_zero, List.set_cons_succ, i64_w, i32_w]
              rfl
            refine pure_ (i := 3) (N := some 139) (v := ?_) (a' := ?_) #[true, true, true, true, false, false, false, false, false, false, false] rfl rfl (by kernel_rfl) (fun _ _ _ h => h) (Or.inl ⟨by rfl, ?_⟩) ?_ ?_
            rotate_left
            · intro w'
              go_simp
              with_reducible rfl
            rotate_left
            · simp only [Act.put, List.setIfInBounds_toArray, List.set_cons_zero, List.set_cons_succ, i64_w, i32_w]
              rfl
            refine take_ (i := 4) (N := some 140) (v := ?_) (a' := ?_) #[true, true, true, true, true, false, false, false, false, false, false] rfl rfl (by kernel_rfl) (fun _ _ _ h => h) (Or.inl ⟨by rfl, ?_⟩) hHeld ?_ ?_
            rotate_left
            · rintro w' ⟨s0, s1, s2, s3, s4, s5, s6⟩
              go_simp
              with_reducible rfl
            rotate_left
            · simp only [Act.put, List.setIfInBounds_toArray, List.set_cons_zero, List.set_cons_succ, i64_w, i32_w]
              rfl
            refine take_ (i := 5) (N := some 141) (v := ?_) (a' := ?_) #[true, true, true, true, true, true, false, false, false, false, false] rfl rfl (by kernel_rfl) (fun _ _ _ h => h) (Or.inl ⟨by rfl, ?_⟩) hHeld ?_ ?_
            rotate_left
            · rintro w' ⟨s0, s1, s2, s3, s4, s5, s6⟩
              go_simp
              with_reducible rfl
            rotate_left
            · simp only [Act.put, List.setIfInBounds_toArray, List.set_cons_zero, List.set_cons_succ, i64_w, i32_w]
              rfl
            refine one_ (i := 6) (N := some 142) #[true, true, true, true, true, true, true, false, false, false, false] rfl rfl (by kernel_rfl) (by decide) (fun K hK => ?_)
            refine value_ (w1 := ?_) (v := ?_) (by rfl) rfl ?_ ?_
            rotate_left 2
            · go_simp
              constructor
              · rfl
              · rfl
            refine hK.out _ _ ⟨((HBB.out _).cell 1), ((HBH.out _).cell 0), ((HBH.out _).cell 1), ((HBH.out _).cell 2), ((HBH.out _).cell 3), ((HBH.out _).cell 4), ((HBH.out _).cell 5)⟩ (fun hHeld => ?_)
            clear hK K
            refine norm_ (a' := ?_) ?_ ?_
            rotate_left
            · show Act.put _ (some 142) _ = _
              simp only [Act.put, List.setIfInBounds_toArray, List.set_cons_zero, List.set_cons_succ, i64_w, i32_w]
              rfl
            refine one_ (i := 7) (N := some 143) #[true, true, true, true, true, true, true, true, false, false, false] rfl rfl (by kernel_rfl) (by decide) (fun K hK => ?_)
            refine step_appN tyE encE_ok (by rfl) _ _ (by rfl) HRW.out (by rfl) HSL.out (by rfl) hlen h63 ?_
            intro a4 c4 w7 hr7 hS7 hg7
            have hb7 := (HT.out.blk_of (((Ext.refl [] _).drew).alloc _) hS7)
            have hh7 := (HBH.out _).keep (hS7 (Value.slice va n cap).ownBlock.toList (by simp +contextual)) (by intro hq; exact HB3.out B (by simpa using hq) rfl)
            have hfz : w7.frozen? ⟨b, 1, none⟩ = false := hb7.free 1
            refine hK.out _ _ ⟨(hb7.cell 1), (hh7.cell 0), (hh7.cell 1), (hh7.cell 2), (hh7.cell 3), (hh7.cell 4), (hh7.cell 5)⟩ (fun hHeld => ?_)
            clear hK K
            refine norm_ (a' := ?_) ?_ ?_
            rotate_left
            · show Act.put _ (some 143) _ = _
              simp only [Act.put, List.setIfInBounds_toArray, List.set_cons_zero, List.set_cons_succ, i64_w, i32_w]
              rfl
            refine pure_ (i := 8) (N := some 144) (v := ?_) (a' := ?_) #[true, true, true, true, true, true, true, true, true, false, false] rfl rfl (by kernel_rfl) (fun _ _ _ h => h) (Or.inl ⟨by rfl, ?_⟩) ?_ ?_
            rotate_left
            · intro w'
              go_simp
              with_reducible rfl
            rotate_left
            · simp only [Act.put, List.setIfInBounds_toArray, List.set_cons_zero, List.set_cons_succ, i64_w, i32_w]
              rfl
            refine pure_ (i := 9) (N := some 145) (v := ?_) (a' := ?_) #[true, true, true, true, true, true, true, true, true, true, false] rfl rfl (by kernel_rfl) (fun _ _ _ h => h) (Or.inl ⟨by rfl, ?_⟩) ?_ ?_
            rotate_left
            · intro w'
              go_simp
              with_reducible rfl
            rotate_left
            · simp only [Act.put, List.setIfInBounds_toArray, List.set_cons_zero, List.set_cons_succ, i64_w, i32_w]
              rfl
            refine last_ (i := 10) (N := none) #[true, true, true, true, true, true, true, true, true, true, true] rfl rfl (by kernel_rfl) (by decide) (fun K hK => ?_)
            refine skip_ (w1 := ?_) (by rfl) rfl ?_ ?_
            rotate_left
            · go_simp
              rfl
            refine hK.out _ _ ?_
            clear hK K
            refine done_ (by kernel_rfl) ?_
            have hfin := HT.out.appended (((Ext.refl [] _).drew).alloc _) hr7 hS7 (fun g hg => (hg7 g hg).imp_right (fun h => Nat.le_trans ((((Ext.refl [] wq).drew).alloc (.cells (encE a).toArray 35 (0, 0))).size) h)) 1 (by simp)
            have HF := Lib.hid hfin
            have hs6 := HE.out.size
            clear hfin hr7 hS7 hg7 hb7 hh7
            go_wp2_with fail
            refine bodyPost_ret (v := .bool true) (by simp [results, Try.results34, go_sem]) rfl ?_
            have ha9 := HA.out
            subst ha9
            exact ⟨by rw [HM.out], _, ⟨_, by rw [HM.out]; exact HF.out.1, rfl⟩, HE.out.trans HF.out.2.1 (fun x hx => HSS.out x hx), fun x hx => (HF.out.2.2 x hx).elim (fun h1 => HSS.out x h1) (fun h1 => .inr (by omega))⟩

end Go.Proofs.Ytkbjpackijdnkaa
