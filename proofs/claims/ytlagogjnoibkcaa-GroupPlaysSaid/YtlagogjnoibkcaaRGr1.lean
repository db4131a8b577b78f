/- The document's groups: the object; New, is, Live, Make, Members, by contract. -/
import Derived.Test.YtlagogjnoibkcaaGrLeave
namespace Go.Proofs.Ytlagogjnoibkcaa
open Go.RowKit Go.Proofs.YtlagogjnoibkcaaW.PrintLast
set_option linter.unusedVariables false
set_option linter.unusedSimpArgs false

abbrev GQ := GO 85 83
theorem tyGQ : ETy Try.prog 81 85 2 := ⟨by kernel_rfl, ⟨Try.t85, _, by kernel_rfl, by rfl, by rfl, by decide, by rfl⟩, by decide⟩
set_option maxHeartbeats 400000 in
theorem rg_new (w : World) : Calls Try.prog 32 #[] w fun e w' => e = .returned (.pointer (some ⟨w.heap.size, 0, none⟩)) ∧ GQ w' w.heap.size [w.heap.size] [] ∧ Ext [] w w' := by
  have key : GQ (w.alloc (.cells #[.slice none 0 0] 83 (0, 0))) w.heap.size [w.heap.size] [] := ⟨.slice none 0 0, [], ⟨⟨Blk.new _ _ _, Rw.nil _, by simp [Value.ownBlock]⟩, by simp, by simp [gOwn]⟩, rfl, rfl⟩
  have K := Lib.hid key
  clear key
  go_enter Try.func32, Try.ntmps32
  go_wp2_with fail
  go_ret
  exact ⟨rfl, K.out, (Ext.refl _ _).alloc _⟩
set_option maxHeartbeats 800000 in
theorem rg_has (b : Nat) (S : List Nat) (M : List Gk) (g : Int) (w : World) (h : GQ w b S M) :
    Calls Try.prog 52 #[.pointer (some ⟨b, 0, none⟩), .int .i64 g] w fun e w' => e = .returned (.bool (hasM M g)) ∧ w = w' := by
  obtain ⟨v, L, h, hS, rfl⟩ := h
  obtain ⟨a, cap, rfl⟩ := h.ob.row.val
  obtain ⟨n, hn⟩ : ∃ n, n = L.length := ⟨_, rfl⟩
  have hcv : w.cell? ⟨b, 0, none⟩ = some (.slice a L.length cap) := h.ob.blk.cell 0
  rw [← hn] at hcv
  have hm : hasM (absG L) g = (decide (1 ≤ g) && decide (g ≤ (n : Int))) := by unfold hasM; rw [absG_len, hn]
  have HM := Lib.hid hm
  clear h hS hn hm
  by_cases h1 : 1 ≤ g
  · have d1 : decide (1 ≤ g) = true := decide_eq_true h1
    by_cases h2 : g ≤ (n : Int)
    · have d2 : decide (g ≤ (n : Int)) = true := decide_eq_true h2
      go_enter Try.func52, Try.ntmps52
      go_wp2_with fail
      go_ret
      exact ⟨ret_bool (by rw [HM.out, d1, d2]; rfl), rfl⟩
    · have d2 : decide (g ≤ (n : Int)) = false := decide_eq_false h2
      go_enter Try.func52, Try.ntmps52
      go_wp2_with fail
      go_ret
      exact ⟨ret_bool (by rw [HM.out, d1, d2]; rfl), rfl⟩
  · have d1 : decide (1 ≤ g) = false := decide_eq_false h1
    go_enter Try.func52, Try.ntmps52
    go_wp2_with fail
    go_ret
    exact ⟨ret_bool (by rw [HM.out, d1]; rfl), rfl⟩
set_option maxHeartbeats 1600000 in
theorem rg_live (b : Nat) (S : List Nat) (M : List Gk) (g : Int) (hx : M.length < 1000000) (w : World) (h : GQ w b S M) :
    Calls Try.prog 42 #[.pointer (some ⟨b, 0, none⟩), .int .i64 g] w fun e w' => e = .returned (.bool (liveG M g)) ∧ w = w' := by
  have hhs := rg_has b S M g w h
  cases hh : hasM M g with
  | false =>
    have hm : liveG M g = false := by unfold liveG; rw [hh]; rfl
    rw [hh] at hhs
    have HHS := Lib.hid hhs; have HM := Lib.hid hm
    clear hhs hm h hh
    go_enter Try.func42, Try.ntmps42
    go_wp2_with fail
    refine HHS.out.mono ?_
    rintro e w1 ⟨rfl, rfl⟩
    go_wp2_with fail
    go_ret
    exact ⟨ret_bool HM.out, rfl⟩
  | true =>
    obtain ⟨i, s, rfl, hs⟩ := has_at hh
    have hm := liveG_at hs hh
    rw [hh] at hhs
    obtain ⟨v, L, h, hS, rfl⟩ := h
    obtain ⟨t, ht, rfl⟩ := abs_at hs
    obtain ⟨a, cap, rfl⟩ := h.ob.row.val
    obtain ⟨n, hn⟩ : ∃ n, n = L.length := ⟨_, rfl⟩
    have hin : i < n := by rw [hn]; exact (List.getElem?_eq_some_iff.1 ht).1
    rw [absG_len, ← hn] at hx
    rw [← hn] at h
    obtain ⟨q, rfl, hq⟩ := h.ob.row.addr (by omega)
    have hcv : w.cell? ⟨b, 0, none⟩ = some (.slice (some ⟨q, 0, none⟩) n cap) := h.ob.blk.cell 0
    have c1 := h.ob.row.cell encG_ok.len ht 1 (by omega)
    simp only [encG, List.getElem?_cons_zero, List.getElem?_cons_succ] at c1
    have hm2 : liveG (absG L) ((i : Int) + 1) = !t.torn := hm
    have b1 : (0 : Int) ≤ (i : Int) := by omega
    have b2 : (i : Int) < (n : Int) := by omega
    have hi6 : i < 1000000 := by omega
    have HHS := Lib.hid hhs; have HM := Lib.hid hm2
    clear hhs hm hm2 h hh hs ht hn hS
    have f1 := ws1 hi6
    cases htt : t.torn with
    | true =>
      rw [htt] at c1 HM
      go_enter Try.func42, Try.ntmps42
      go_wp2_with fail
      refine HHS.out.mono ?_
      rintro e w1 ⟨rfl, rfl⟩
      go_wp2_with fail
      go_ret
      exact ⟨ret_bool HM.out, rfl⟩
    | false =>
      rw [htt] at c1 HM
      go_enter Try.func42, Try.ntmps42
      go_wp2_with fail
      refine HHS.out.mono ?_
      rintro e w1 ⟨rfl, rfl⟩
      go_wp2_with fail
      go_ret
      exact ⟨ret_bool HM.out, rfl⟩
set_option maxHeartbeats 1600000 in
theorem rg_members (b : Nat) (S : List Nat) (M : List Gk) (g : Int) (hx : M.length < 10000) (hu : OkG M) (w : World) (h : GQ w b S M) :
    Calls Try.prog 41 #[.pointer (some ⟨b, 0, none⟩), .int .i64 g] w (MemP (memG M g) w) := by
  have hhs := rg_has b S M g w h
  cases hh : hasM M g with
  | false =>
    have hm : memG M g = [] := by unfold memG; rw [hh]; rfl
    rw [hh] at hhs
    have HHS := Lib.hid hhs; have HM := Lib.hid hm
    clear hhs hm h hh hu
    go_enter Try.func41, Try.ntmps41
    go_wp2_with fail
    refine HHS.out.mono ?_
    rintro e w1 ⟨rfl, rfl⟩
    go_wp2_with fail
    refine bodyPost_ret (v := .slice none 0 0) (by simp [results, Try.results41, go_sem]) rfl ?_
    unfold MemP
    rw [HM.out]
    exact ⟨none, 0, rfl, Rw.nil _, Ext.refl _ _, fun g hg => by simp [Value.ownBlock] at hg⟩
  | true =>
    obtain ⟨i, s, rfl, hs⟩ := has_at hh
    rw [hh] at hhs
    have hm : memG M ((i : Int) + 1) = s.ids := by unfold memG; rw [if_pos hh, show ((i : Int) + 1 - 1).toNat = i by omega, hs]; rfl
    have hsl := hu s (List.mem_of_getElem? hs)
    obtain ⟨v, L, h, hS, rfl⟩ := h
    obtain ⟨t, ht, rfl⟩ := abs_at hs
    obtain ⟨a, cap, rfl⟩ := h.ob.row.val
    obtain ⟨n, hn⟩ : ∃ n, n = L.length := ⟨_, rfl⟩
    have hin : i < n := by rw [hn]; exact (List.getElem?_eq_some_iff.1 ht).1
    rw [absG_len, ← hn] at hx
    rw [← hn] at h
    obtain ⟨q, rfl, hq⟩ := h.ob.row.addr (by omega)
    have hcv : w.cell? ⟨b, 0, none⟩ = some (.slice (some ⟨q, 0, none⟩) n cap) := h.ob.blk.cell 0
    have c0 := h.ob.row.cell encG_ok.len ht 0 (by omega)
    simp only [encG, Gr.row, Nat.add_zero, List.getElem?_cons_zero, List.getElem?_cons_succ] at c0
    have hri := h.inn t (List.mem_of_getElem? ht)
    unfold Gr.row at hri
    obtain ⟨l, hl⟩ : ∃ l, l = t.ids.length := ⟨_, rfl⟩
    have hsl2 : t.ids.length < 100000 := hsl
    have hm2 : memG (absG L) ((i : Int) + 1) = t.ids := hm
    rw [← hl] at c0 hri hsl2
    have b1 : (0 : Int) ≤ (i : Int) := by omega
    have b2 : (i : Int) < (n : Int) := by omega
    have hsl := hri.sl
    have hrw : RI w (.slice none 0 0) [] := Rw.nil _
    have hlen : LenIs ([] : List Int) t.ids l := by unfold LenIs; rw [hl]; simp
    have h63 : l ≤ 1000000 := by omega
    have hi6 : i < 1000000 := by omega
    have HHS := Lib.hid hhs; have HM := Lib.hid hm2; have HL := Lib.hid hl
    clear hhs hm hm2 h hh hs ht hn hS hl hri hu
    have f1 := ws1 hi6
    go_enter Try.func41, Try.ntmps41
    go_wp2_with fail
    refine HHS.out.mono ?_
    rintro e w1 ⟨rfl, rfl⟩
    go_wp2_with (at_builtin; refine wpList_appN tyI encI_ok (by rfl) _ _ (by rfl) hrw (by rfl) hsl (by rfl) hlen h63 ?_)
    intro a' c' w5 hr5 hS5 hg5
    have he5 := hS5 [] (by simp [Value.ownBlock])
    have HR5 := Lib.hid hr5; have HE5 := Lib.hid he5; have HG5 := Lib.hid hg5
    clear hr5 hS5 he5 hg5 hsl hrw hlen hcv c0 f1
    go_wp2_with fail
    refine bodyPost_ret (v := .slice a' l c') (by simp [results, Try.results41, go_sem]) rfl ?_
    unfold MemP
    rw [HM.out, ← HL.out]
    exact ⟨a', c', rfl, by simpa using HR5.out, HE5.out, fun g hg => (HG5.out g hg).elim (fun h => by simp [Value.ownBlock] at h) id⟩
def MakeQ (b : Nat) (S : List Nat) (M : List Gk) (w : World) (e : Ending) (w' : World) : Prop :=
  e = .returned (.tuple #[.int .i64 (makeM M).1.1, .int .i64 (makeM M).1.2]) ∧ Chg (fun w' S' => GQ w' b S' (makeM M).2) S w w'
set_option maxHeartbeats 1600000 in
theorem rg_make (b : Nat) (S : List Nat) (M : List Gk) (w : World) (h : GQ w b S M) :
    Calls Try.prog 33 #[.pointer (some ⟨b, 0, none⟩)] w (MakeQ b S M w) := by
  unfold MakeQ
  obtain ⟨v, L, h, hS, rfl⟩ := h
  obtain ⟨a, cap, rfl⟩ := h.ob.row.val
  obtain ⟨n, hn⟩ : ∃ n, n = L.length := ⟨_, rfl⟩
  rw [← hn] at h hS
  have hcv : w.cell? ⟨b, 0, none⟩ = some (.slice a n cap) := h.ob.blk.cell 0
  by_cases hf : 64 ≤ n
  · have d1 : decide (64 ≤ (n : Int)) = true := decide_eq_true (by omega)
    have hm : makeM (absG L) = ((0, 10), absG L) := by unfold makeM; rw [if_pos (by rw [absG_len, ← hn]; exact hf)]
    have HM := Lib.hid hm; have HH := Lib.hid h; have HS := Lib.hid hS
    clear hm h hS hn
    go_enter Try.func33, Try.ntmps33
    go_wp2_with fail
    refine bodyPost_ret (v := .tuple #[.int .i64 0, .int .i64 10]) (by simp [results, Try.results33, go_sem]) rfl ?_
    rw [HM.out]
    exact ⟨rfl, S, ⟨_, L, HH.out, HS.out, rfl⟩, Ext.refl _ _, fun x hx => .inl hx⟩
  · have d1 : decide (64 ≤ (n : Int)) = false := decide_eq_false (by omega)
    have hm : makeM (absG L) = (((n : Int) + 1, 0), absG (L ++ [noG])) := by
      unfold makeM; rw [if_neg (by rw [absG_len, ← hn]; exact hf), absG_len, ← hn]
      unfold absG; rw [List.map_append]; rfl
    have hlen : LenIs L [noG] (n + 1) := by unfold LenIs; rw [← hn]; rfl
    have h63 : n + 1 ≤ 1000000 := by omega
    have hsl := Sl.new (enc := encG) w noG 85
    have hrw := h.ob.row.alloc (.cells (encG noG).toArray 85 (0, 0))
    have e0 : Ext [] w (w.alloc (.cells (encG noG).toArray 85 (0, 0))) := (Ext.refl _ _).alloc _
    have hbl := h.ob.blk.lt
    unfold encG noG Gr.row at hsl hrw e0
    have HM := Lib.hid hm; have HH := Lib.hid h; have HS := Lib.hid hS; have E0 := Lib.hid e0
    clear hm h hS hn e0
    go_enter Try.func33, Try.ntmps33
    go_wp2_with (at_builtin; refine wpList_appN tyGQ encG_ok (by rfl) _ _ (by rfl) hrw (by rfl) hsl (by rfl) hlen h63 ?_)
    intro a5 c5 w5 hr5 hS5 hg5
    have hfin := HH.out.ob.appended E0.out hr5 hS5 (fun g hg => (hg5 g hg).imp_right (fun h => by omega)) 0 (by simp)
    have hb5 := HH.out.ob.blk_of E0.out hS5
    have hcv5 : w5.cell? ⟨b, 0, none⟩ = some (.slice a n cap) := hb5.cell 0
    have hfz5 : w5.frozen? ⟨b, 0, none⟩ = false := hb5.free 0
    have hcv6 : (w5.setCell ⟨b, 0, none⟩ (.slice a5 (n + 1) c5)).cell? ⟨b, 0, none⟩ = some (.slice a5 (n + 1) c5) := hfin.1.blk.cell 0
    have HF := Lib.hid hfin
    clear hfin hb5 hr5 hS5 hg5 hsl hrw hlen hcv
    go_wp2_with fail
    refine bodyPost_ret (v := .tuple #[.int .i64 ((n : Int) + 1), .int .i64 0]) (by simp [results, Try.results33, go_sem]) rfl ?_
    rw [HM.out]
    have hmo : gOwn (L ++ [noG]) = gOwn L := by rw [gOwn_append, gOwn_cons]; simp [noG, Gr.row, Value.ownBlock, gOwn]
    have hap := HH.out.apart (by decide) (by decide)
    refine ⟨rfl, _, ⟨_, L ++ [noG], ⟨HF.out.1, fun s hs => ?_, by rw [hmo]; exact HH.out.dis⟩, rfl, rfl⟩, HF.out.2.1.mono (fun x hx => .inl (by rw [HS.out]; exact List.mem_append_left _ hx)), fun x hx => ?_⟩
    · rcases List.mem_append.1 hs with hs | hs
      · exact (HH.out.inn s hs).keep HF.out.2.1 (fun y hy hm => hap y (mem_gOwn hs hy) hm)
      · simp at hs; subst hs; exact Rw.nil _
    · rw [hmo] at hx
      rcases List.mem_append.1 hx with hx | hx
      · exact (HF.out.2.2 x hx).imp_left (fun h => by rw [HS.out]; exact List.mem_append_left _ h)
      · exact .inl (by rw [HS.out]; exact List.mem_append_right _ hx)
end Go.Proofs.Ytlagogjnoibkcaa
