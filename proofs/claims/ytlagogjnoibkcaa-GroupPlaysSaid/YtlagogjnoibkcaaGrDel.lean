/- slices.Delete at []int, of one element. -/
import Derived.Test.YtlagogjnoibkcaaIntRows
namespace Go.Proofs.Ytlagogjnoibkcaa
open Go.RowKit
set_option linter.unusedVariables false
set_option linter.unusedSimpArgs false

set_option maxHeartbeats 3200000
/-- slices.Delete of one element of this row. -/
theorem gi_delete {α : Type} (enc : α → List Value) (N : EncOk enc 1) (g n cap i : Nat) (xs : List α) (hi : i < n) (hn : n < 1000000) (w : World) (h : Rw enc 1 3 w (.slice (some ⟨g, 0, none⟩) n cap) xs) :
    Calls Try.prog 53 #[.slice (some ⟨g, 0, none⟩) n cap, .int .i64 i, .int .i64 ((i : Int) + 1)] w fun e w' => e = .returned (.slice (some ⟨g, 0, none⟩) (n - 1) cap) ∧ Rw enc 1 3 w' (.slice (some ⟨g, 0, none⟩) (n - 1) cap) (xs.eraseIdx i) ∧ Ext [g] w w' := by
  have hlen : n = xs.length := by
    obtain ⟨a, c, hv⟩ := h.val
    injection hv
  obtain ⟨hnc, hcm⟩ : n ≤ cap ∧ cap ≤ maxLen := by
    rcases h.2 with ⟨hv, _⟩ | ⟨g', cap', cur, hv, _, _, h1, h2, _⟩
    · cases hv
    · injection hv with _ _ hv3
      subst hv3
      rw [← hlen] at h1
      exact ⟨h1, h2⟩
  unfold maxLen at hcm
  obtain ⟨m, hm⟩ : ∃ m, n = i + 1 + m := ⟨n - (i + 1), by omega⟩
  obtain ⟨news, hnews⟩ : ∃ news, news = (xs.drop (i + 1)).flatMap enc := ⟨_, rfl⟩
  have hnl : news.length = m * 1 := by rw [hnews, flat_len N.len, List.length_drop, ← hlen, hm]; congr 1; omega
  obtain ⟨A, hA, hsrc⟩ : ∃ A : Addr, (if cap = i + 1 then some (⟨g, 0, none⟩ : Addr) else some ⟨g, (i + 1) * 1, none⟩) = some A ∧ Hid (∀ t u, news[t]? = some u → w.drew.cell? (A.add t) = some u) := by
    by_cases hc : cap = i + 1
    · refine ⟨⟨g, 0, none⟩, by simp [hc], fun t u hu => ?_⟩
      have h0 : news.length = 0 := by rw [hnl]; have : m = 0 := by omega
                                      rw [this, Nat.zero_mul]
      rw [List.length_eq_zero_iff.1 h0] at hu
      simp at hu
    · refine ⟨⟨g, (i + 1) * 1, none⟩, by simp [hc], fun t u hu => ?_⟩
      rw [hnews, flat_drop N.len, List.getElem?_drop] at hu
      have := World.ownsRow.cells h rfl _ _ hu
      rw [Addr.add_mk, Nat.zero_add] at this
      rw [Addr.add_mk]; exact this
  have s1 : Hid (news.length = m * 1) := hnl
  have s2 : Hid (∀ u ∈ news, u.oneCell' = true) := by
    intro u hu
    rw [hnews] at hu
    obtain ⟨x, _, hx⟩ := List.mem_flatMap.1 hu
    exact N.one x u hx
  have hcells : ∀ t, t < n * 1 → (w.cell? ⟨g, t, none⟩).isSome = true ∧ w.frozen? ⟨g, t, none⟩ = false := by
    intro t ht
    refine ⟨?_, h.free t⟩
    have : (xs.flatMap enc).length = n * 1 := by rw [flat_len N.len, hlen]
    have h' := h
    rw [hlen] at h'
    rw [World.ownsRow.cellAt h' t (by rw [← hlen]; exact ht), List.getElem?_eq_getElem (by omega)]; rfl
  have s3 : Hid (∀ t, t < news.length → (w.drew.cell? ⟨g, 0 + i * 1 + t, none⟩).isSome = true ∧ w.drew.frozen? ⟨g, 0 + i * 1 + t, none⟩ = false) := by
    intro t ht
    rw [hnl] at ht
    have hlt : 0 + i * 1 + t < n * 1 := by rw [hm]; omega
    exact hcells _ hlt
  obtain ⟨W1, hW1⟩ : ∃ W1, W1 = w.drew.setCells g (0 + i * 1) news := ⟨_, rfl⟩
  have hd : Rw enc 1 3 w.drew (.slice (some ⟨g, 0, none⟩) n cap) xs := h
  have hR1 : Rw enc 1 3 W1 (.slice (some ⟨g, 0, none⟩) (n - 1) cap) (xs.eraseIdx i) := by
    have := hd.cut N.len hi
    rw [hW1, hnews, Nat.zero_add]; exact this
  have hE1 : Ext [g] w W1 := by rw [hW1]; exact Ext.of_drew (Ext.setCells (Or.inl (by simp)) _ _ _ (Ext.refl _ _))
  have hcell1 : ∀ t, t < n * 1 → (W1.cell? ⟨g, t, none⟩).isSome = true ∧ W1.frozen? ⟨g, t, none⟩ = false := by
    intro t ht
    have h0 := hcells t ht
    have : W1 = (w.drew.setCells g (0 + i * 1) news) := hW1
    rw [this]
    refine ⟨?_, by rw [World.frozen?_setCells]; exact h0.2⟩
    by_cases hin : 0 + i * 1 ≤ t ∧ t < 0 + i * 1 + news.length
    · have := World.cell?_setCells_in g news (0 + i * 1) w.drew (fun j hj => (s3.out j hj).1) (t - (0 + i * 1)) (by omega)
      rw [show 0 + i * 1 + (t - (0 + i * 1)) = t by omega] at this
      rw [this]; rfl
    · rw [World.cell?_setCells_out g news (0 + i * 1) w.drew ⟨g, t, none⟩ (fun _ _ => by simp; omega)]
      exact h0.1
  obtain ⟨i0, hi0, hi1⟩ : ∃ i0, Try.prog.info? 3 = some i0 ∧ i0.size = 1 := ⟨Try.t3, by kernel_rfl, by rfl⟩
  obtain ⟨zv, hz0, hz1, hz2⟩ : ∃ zv, (∀ w, (zeroValue 3).run Try.prog w = .ok zv w) ∧ zv.cells.size = 1 ∧ ∀ u ∈ zv.cells, u.oneCell' = true := ⟨_, Try.zeroValue3, by rfl, by simp [Value.cells, Value.oneCell']⟩
  have t22 : Try.prog.underlying 42 = some (.slice 3) := Try.underlying42
  obtain ⟨W2, hW2⟩ : ∃ W2, W2 = W1.setCells g ((n - 1) * 1) (Builtin.zeroCells zv.cells 1).toList := ⟨_, rfl⟩
  have hcl : ∀ ty c, (Builtin.clear_ #[42] ty #[.slice (some ⟨g, (i + m) * 1, none⟩) (n - (i + m)) c]).run Try.prog W1 = .ok (.tuple #[]) W2 := by
    intro ty c
    have := run_clear_k (P := Try.prog) W1 42 3 ty zv 1 t22 hz0 hz1 hz2 g ((n - 1) * 1) 1 c (by omega) (fun j hj => (hcell1 _ (by omega)).1) (fun j hj => (hcell1 _ (by omega)).2)
    rw [hW2, ← this]
    have e1 : n - 1 = i + m := by omega
    have e2 : n - (i + m) = 1 := by omega
    rw [e2, e1]
  have hR2 : Rw enc 1 3 W2 (.slice (some ⟨g, 0, none⟩) (n - 1) cap) (xs.eraseIdx i) := by rw [hW2]; exact hR1.spoilt N.len _ _ (Nat.le_refl _)
  have hE2 : Ext [g] w W2 := by rw [hW2]; exact Ext.setCells (Or.inl (by simp)) _ _ _ hE1
  have HR2 := Lib.hid hR2; have HE2 := Lib.hid hE2; have HW1 := Lib.hid hW1; have HL := Lib.hid hlen
  have hm1 : n - 1 = i + m := by omega
  have HM1 := Lib.hid hm1
  clear hR2 hE2 hW1 hW2 hR1 hE1 hcell1 hcells hd hnl hnews h hlen hm1
  obtain ⟨j, hj⟩ : ∃ j : Nat, j = i + 1 := ⟨_, rfl⟩
  rw [← hj] at hA
  try rw [Nat.mul_one] at hA
  try simp only [Nat.mul_one] at hcl
  rw [show ((i : Int) + 1) = (j : Int) by omega]
  have b0 : i < j := by omega
  have b1 : j ≤ cap := by omega
  have b2 : i ≤ cap := by omega
  have b3 : j ≤ n := by omega
  have b4 : ((i : Int) == (j : Int)) = false := by simp; omega
  have b5 : n - j = m := by omega
  have b6 : i ≤ n := by omega
  clear hm hj
  go_enter Try.func53, Try.ntmps53
  go_wp2_with fail
  go_region_law (refine step_append_room rfl (.tmp 22) (.tmp 25) 42 rfl 3 i0 1 t22 hi0 hi1 g 0 i cap (by simp [Act.eval, Act.put]) A m (cap - j) news (by simp [Act.eval, Act.put]) s1.out hsrc.out s2.out (by omega) s3.out ?_; rw [← HW1.out])
  go_wp2_with fail
  go_ret
  rw [HM1.out]
  exact ⟨rfl, by have := HR2.out; rwa [HM1.out] at this, HE2.out⟩

end Go.Proofs.Ytlagogjnoibkcaa
