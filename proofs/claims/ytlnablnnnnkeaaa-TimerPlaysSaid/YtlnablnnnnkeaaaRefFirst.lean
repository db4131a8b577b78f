/- The document's wheel: first, by contract. -/
import Derived.Test.YtlnablnnnnkeaaaFirst1
import Derived.Test.YtlnablnnnnkeaaaFirst2
import Derived.Test.YtlnablnnnnkeaaaFirst3
import Derived.Test.YtlnablnnnnkeaaaFirst4
import Derived.Test.YtlnablnnnnkeaaaFirst5
namespace Go.Proofs.Ytlnablnnnnkeaaa
open Go.RowKit Go.Proofs.YtlnablnnnnkeaaaW.PrintLast
set_option linter.unusedVariables false
set_option linter.unusedSimpArgs false

/-- The place that first tells. -/
def FirstOf (xs : List One) (n : Nat) (kv : Int) : Prop :=
  (n = 0 ∧ kv = -1) ∨ ∃ (k : Nat) (t : One), k < n ∧ kv = k ∧ xs[k]? = some t ∧ ∀ (j : Nat) (x : One), j < n → xs[j]? = some x → leO t x

theorem FirstOf.more {xs : List One} {n k : Nat} {t x : One} (ht : xs[k]? = some t) (hk : k < n) (h : ∀ (j : Nat) (x : One), j < n → xs[j]? = some x → leO t x) (hx : xs[n]? = some x) (hl : leO t x) : FirstOf xs (n + 1) k := by
  refine .inr ⟨k, t, by omega, rfl, ht, fun j y hj hy => ?_⟩
  by_cases hjn : j = n
  · subst hjn; rw [hx] at hy; injection hy with hy; subst hy; exact hl
  · exact h j y (by omega) hy
theorem FirstOf.turn {xs : List One} {n : Nat} {t x : One} (h : ∀ (j : Nat) (x : One), j < n → xs[j]? = some x → leO t x) (hx : xs[n]? = some x) (hl : leO x t) : FirstOf xs (n + 1) n := by
  refine .inr ⟨n, x, by omega, rfl, hx, fun j y hj hy => ?_⟩
  by_cases hjn : j = n
  · subst hjn; rw [hx] at hy; injection hy with hy; subst hy; exact leO_refl _
  · exact leO_trans hl (h j y (by omega) hy)
theorem FirstOf.one {xs : List One} {x : One} (hx : xs[0]? = some x) : FirstOf xs 1 0 := by
  refine .inr ⟨0, x, by omega, rfl, hx, fun j y hj hy => ?_⟩
  have : j = 0 := by omega
  subst this; rw [hx] at hy; injection hy with hy; subst hy; exact leO_refl _

set_option maxRecDepth 100000 in
set_option maxHeartbeats 6400000 in
theorem first_any (b : Nat) (v : Value) (xs : List One) (most last : Int) (hx : xs.length < 1000000) (w : World) (h : Rf w b v xs most last) :
    Calls Try.prog 26 #[.pointer (some ⟨b, 0, none⟩)] w fun e w' =>
      ∃ kv, e = .returned (.int .i64 kv) ∧ FirstOf xs xs.length kv ∧ Rf w' b v xs most last ∧ Ext [] w w' := by
  obtain ⟨a, cap, rfl⟩ := h.row.val
  obtain ⟨n, hn⟩ : ∃ n, n = xs.length := ⟨_, rfl⟩
  rw [← hn] at h hx ⊢
  have HN := Lib.hid hn
  clear hn
  go_enter Try.func26, Try.ntmps26
  go_wp2_with fail
  go_loopw [3, 4] (fun kv iv wr => ∃ (i : Nat) (z : Int), i ≤ n ∧ iv = .int .i64 i ∧ kv = .int .i64 z ∧ Hid (FirstOf xs i z) ∧ Rf wr b (.slice a n cap) xs most last ∧ Ext [] w wr) (fun _ iv _ => n - (intOf iv).toNat)
  case atStart => exact ⟨0, -1, Nat.zero_le _, rfl, rfl, .inl ⟨rfl, rfl⟩, h, Ext.refl _ _⟩
  case round =>
    obtain ⟨i, z, hin, rfl, rfl, hf, hw, her⟩ := hrel
    have hcv : wr.cell? ⟨b, 2, none⟩ = some (.slice a n cap) := hw.blk.cell 2
    by_cases hi : i < n
    · have d1 : decide (i < n) = true := decide_eq_true hi
      obtain ⟨x, hxi⟩ : ∃ x, xs[i]? = some x := ⟨_, List.getElem?_eq_getElem (by rw [← HN.out]; exact hi)⟩
      obtain ⟨g, cap', hv, hlt, hc⟩ := hw.row.form (by rw [← HN.out]; omega)
      injection hv with hv1 hv2 hv3
      subst hv1 hv3
      have hx0 := hw.row.cell encT_len hxi 0 (by omega); have hx1 := hw.row.cell encT_len hxi 1 (by omega); have hx2 := hw.row.cell encT_len hxi 2 (by omega)
      simp only [encT, Nat.add_zero, List.getElem?_cons_zero, List.getElem?_cons_succ] at hx0 hx1 hx2
      have b1 : (0 : Int) ≤ (i : Int) := by omega
      have b2 : (i : Int) < (n : Int) := by omega
      clear hv2 hc
      have HXI := Lib.hid hxi
      clear hxi
      rcases hf.out with ⟨h0, hz⟩ | ⟨k, t, hk, hz, ht, hall⟩
      · subst hz
        have H0 := Lib.hid h0
        clear h0
        go_wp2_with fail
        refine first_c1 wr b g n cap i 0 x.at_ x.id 0 0 b1 b2 hcv hx0 hx2 _ (fun _ _ _ _ _ h => h) ?_
        clear hcv hx0 hx1 hx2
        intro v14 v15 v16 v17 v18 v19 v20 v21 v22 v23 v24 v25 v26 v27 v28 v29 v30 v31 v32 v33 v34 v35 v36 v37 v38 v39 v40 v41 v42 v43 v44 v45 v46 v47 v48 v49 v50 v51 v52 v53 v54 v55 v56 v57 v58 v59 v60 v61 v62 v63 v64 v65 v66 v67 v68 v69 v70 v71 w9 e9
        go_wp2_with fail
        exact ⟨⟨i + 1, i, by omega, rfl, rfl, by have e := H0.out; subst e; exact FirstOf.one HXI.out, hw.keep e9 (by simp) (by simp), her.trans e9 (by simp)⟩, by simp [intOf]; omega⟩
      · subst hz
        have ht0 := hw.row.cell encT_len ht 0 (by omega); have ht1 := hw.row.cell encT_len ht 1 (by omega); have ht2 := hw.row.cell encT_len ht 2 (by omega)
        simp only [encT, Nat.add_zero, List.getElem?_cons_zero, List.getElem?_cons_succ] at ht0 ht1 ht2
        have b3 : (0 : Int) ≤ (k : Int) := by omega
        have dk : decide ((k : Int) < 0) = false := decide_eq_false (by omega)
        have b4 : (k : Int) < (n : Int) := by omega
        have HT := Lib.hid ht
        have HALL := Lib.hid hall
        clear ht hall hf
        by_cases c1 : x.at_ < t.at_
        · have d2 : decide (x.at_ < t.at_) = true := decide_eq_true c1
          have HC := Lib.hid c1
          clear c1
          go_wp2_with fail
          refine first_c2 wr b g n cap i k x.at_ x.id t.at_ t.id b1 b2 b3 b4 dk d2 hcv hx0 hx2 ht0 ht2 _ (fun _ _ _ _ _ h => h) ?_
          clear hcv hx0 hx1 hx2 ht0 ht1 ht2
          intro v14 v15 v16 v17 v18 v19 v20 v21 v22 v23 v24 v25 v26 v27 v28 v29 v30 v31 v32 v33 v34 v35 v36 v37 v38 v39 v40 v41 v42 v43 v44 v45 v46 v47 v48 v49 v50 v51 v52 v53 v54 v55 v56 v57 v58 v59 v60 v61 v62 v63 v64 v65 v66 v67 v68 v69 v70 v71 w9 e9
          go_wp2_with fail
          exact ⟨⟨i + 1, i, by omega, rfl, rfl, FirstOf.turn HALL.out HXI.out (by have := HC.out; rw [leO_iff]; omega), hw.keep e9 (by simp) (by simp), her.trans e9 (by simp)⟩, by simp [intOf]; omega⟩
        · have d2 : decide (x.at_ < t.at_) = false := decide_eq_false c1
          by_cases c2 : x.at_ = t.at_
          · have d3 : (x.at_ == t.at_) = true := by simp [c2]
            by_cases c3 : x.id < t.id
            · have d4 : decide (x.id < t.id) = true := decide_eq_true c3
              have HC := Lib.hid (And.intro c2 c3)
              clear c1 c2 c3
              go_wp2_with fail
              refine first_c3 wr b g n cap i k x.at_ x.id t.at_ t.id b1 b2 b3 b4 dk d2 d3 d4 hcv hx0 hx2 ht0 ht2 _ (fun _ _ _ _ _ h => h) ?_
              clear hcv hx0 hx1 hx2 ht0 ht1 ht2
              intro v14 v15 v16 v17 v18 v19 v20 v21 v22 v23 v24 v25 v26 v27 v28 v29 v30 v31 v32 v33 v34 v35 v36 v37 v38 v39 v40 v41 v42 v43 v44 v45 v46 v47 v48 v49 v50 v51 v52 v53 v54 v55 v56 v57 v58 v59 v60 v61 v62 v63 v64 v65 v66 v67 v68 v69 v70 v71 w9 e9
              go_wp2_with fail
              exact ⟨⟨i + 1, i, by omega, rfl, rfl, FirstOf.turn HALL.out HXI.out (by have := HC.out; rw [leO_iff]; omega), hw.keep e9 (by simp) (by simp), her.trans e9 (by simp)⟩, by simp [intOf]; omega⟩
            · have d4 : decide (x.id < t.id) = false := decide_eq_false c3
              have HC := Lib.hid (And.intro c2 c3)
              clear c1 c2 c3
              go_wp2_with fail
              refine first_c4 wr b g n cap i k x.at_ x.id t.at_ t.id b1 b2 b3 b4 dk d2 d3 d4 hcv hx0 hx2 ht0 ht2 _ (fun _ _ _ _ _ h => h) ?_
              clear hcv hx0 hx1 hx2 ht0 ht1 ht2
              intro v14 v15 v16 v17 v18 v19 v20 v21 v22 v23 v24 v25 v26 v27 v28 v29 v30 v31 v32 v33 v34 v35 v36 v37 v38 v39 v40 v41 v42 v43 v44 v45 v46 v47 v48 v49 v50 v51 v52 v53 v54 v55 v56 v57 v58 v59 v60 v61 v62 v63 v64 v65 v66 v67 v68 v69 v70 v71 w9 e9
              go_wp2_with fail
              exact ⟨⟨i + 1, k, by omega, rfl, rfl, FirstOf.more HT.out hk HALL.out HXI.out (by have := HC.out; rw [leO_iff]; omega), hw.keep e9 (by simp) (by simp), her.trans e9 (by simp)⟩, by simp [intOf]; omega⟩
          · have d3 : (x.at_ == t.at_) = false := by simp [c2]
            have HC := Lib.hid (And.intro c1 c2)
            clear c1 c2
            go_wp2_with fail
            refine first_c5 wr b g n cap i k x.at_ x.id t.at_ t.id b1 b2 b3 b4 dk d2 d3 hcv hx0 hx2 ht0 ht2 _ (fun _ _ _ _ _ h => h) ?_
            clear hcv hx0 hx1 hx2 ht0 ht1 ht2
            intro v14 v15 v16 v17 v18 v19 v20 v21 v22 v23 v24 v25 v26 v27 v28 v29 v30 v31 v32 v33 v34 v35 v36 v37 v38 v39 v40 v41 v42 v43 v44 v45 v46 v47 v48 v49 v50 v51 v52 v53 v54 v55 v56 v57 v58 v59 v60 v61 v62 v63 v64 v65 v66 v67 v68 v69 v70 v71 w9 e9
            go_wp2_with fail
            exact ⟨⟨i + 1, k, by omega, rfl, rfl, FirstOf.more HT.out hk HALL.out HXI.out (by have := HC.out; rw [leO_iff]; omega), hw.keep e9 (by simp) (by simp), her.trans e9 (by simp)⟩, by simp [intOf]; omega⟩
    · have d1 : decide (i < n) = false := decide_eq_false hi
      have : i = n := by omega
      subst this
      go_wp2_with fail
      go_ret
      exact ⟨_, rfl, hf.out, hw, her⟩
end Go.Proofs.Ytlnablnnnnkeaaa
