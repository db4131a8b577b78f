/- The preflights' table: Members, by contract. -/
import Derived.Test.YtkbjpackijdnkaaShMore
namespace Go.Proofs.Ytkbjpackijdnkaa
open Go.RowKit
set_option linter.unusedVariables false
set_option linter.unusedSimpArgs false

def memA (M : List Sk) (pre : Int) : List Int := ((M.find? (numA pre)).map Sk.ids).getD []
def MemP (ids : List Int) (w : World) (e : Ending) (w' : World) : Prop :=
  ∃ (a : Option Addr) (c : Nat), e = .returned (.slice a ids.length c) ∧ RI w' (.slice a ids.length c) ids ∧ Ext [] w w' ∧ (∀ g, (Value.slice a ids.length c).ownBlock = some g → w.heap.size ≤ g)

set_option maxHeartbeats 1600000 in
set_option maxRecDepth 100000 in
theorem sh_members (b : Nat) (S : List Nat) (last : Int) (M : List Sk) (pre : Int) (hx : M.length < 10000) (hu : MemOk M) (w : World) (h : SH w b S last M) :
    Calls Try.prog 28 #[.pointer (some ⟨b, 0, none⟩), .int .i64 pre] w (MemP (memA M pre) w) := by
  obtain ⟨v, L, h, hS, rfl⟩ := h
  rw [absH_len] at hx
  clear hS
  have hat := shAt_any b v last L pre (by omega) w h
  rcases idxI_spec (numIs pre) L with ⟨h1, h2⟩ | ⟨i, s, h1, h2, h3, h4⟩
  · rw [h1] at hat
    have hm : memA (absH L) pre = [] := by
      unfold memA
      rw [List.find?_eq_none.2 (fun x hx => by
        obtain ⟨y, hy, rfl⟩ := List.mem_map.1 hx
        have := h2 y hy
        simp [show numA pre y.abs = false from this])]
      rfl
    have HM := Lib.hid hm; have HAT := Lib.hid hat
    clear h1 h2 hm hat h hx hu
    go_enter Try.func28, Try.ntmps28
    go_wp2_with fail
    refine HAT.out.mono ?_
    rintro e w1 ⟨rfl, e1⟩
    go_wp2_with fail
    refine bodyPost_ret (v := .slice none 0 0) (by simp [results, Try.results28, go_sem]) rfl ?_
    unfold MemP
    rw [HM.out]
    exact ⟨none, 0, rfl, Rw.nil _, e1, fun g hg => by simp [Value.ownBlock] at hg⟩
  · rw [h4] at hat
    have hm : memA (absH L) pre = s.ids := by
      unfold memA
      have : (absH L).find? (numA pre) = some s.abs := by
        have hil := (List.getElem?_eq_some_iff.1 h1).1
        rw [List.find?_eq_some_iff_getElem]
        refine ⟨h2, i, by rw [absH_len]; exact hil, ?_, fun j hji => ?_⟩
        · have := absH_at h1
          rw [List.getElem?_eq_getElem (by rw [absH_len]; exact hil)] at this
          injection this
        · have hjl : j < L.length := by omega
          have := h3 j _ hji (List.getElem?_eq_getElem hjl)
          have e : (absH L)[j]'(by rw [absH_len]; exact hjl) = (L[j]).abs := by unfold absH; rw [List.getElem_map]
          rw [e]
          simp [show numA pre (L[j]).abs = false from this]
      rw [this]; rfl
    obtain ⟨a, cap, rfl⟩ := h.ob.row.val
    obtain ⟨n, hn⟩ : ∃ n, n = L.length := ⟨_, rfl⟩
    have hin : i < n := by rw [hn]; exact (List.getElem?_eq_some_iff.1 h1).1
    rw [← hn] at h hx
    obtain ⟨g, rfl, hgl⟩ := h.ob.row.addr (by omega)
    have hsm := List.mem_of_getElem? h1
    have hids := hu.L s hsm
    obtain ⟨l, hl⟩ : ∃ l, l = s.ids.length := ⟨_, rfl⟩
    have HM := Lib.hid hm; have HAT := Lib.hid hat; have HH := Lib.hid h; have H1 := Lib.hid h1; have HL := Lib.hid hl
    have hl5 : l < 100000 := by omega
    clear h1 h2 h3 h4 hm hat h hn hu hl hids
    go_enter Try.func28, Try.ntmps28
    go_wp2_with fail
    refine HAT.out.mono ?_
    rintro e w1 ⟨rfl, e1⟩
    have h1 := HH.out.keep0 e1
    have hcv : w1.cell? ⟨b, 0, none⟩ = some (.slice (some ⟨g, 0, none⟩) n cap) := h1.ob.blk.cell 0
    have c6 := h1.ob.row.cell encSh_ok.len H1.out 6 (by omega)
    simp only [encSh, Sh.row, List.getElem?_cons_zero, List.getElem?_cons_succ] at c6
    have hri := h1.inn s hsm
    unfold Sh.row at hri
    rw [← HL.out] at c6 hri
    have b1 : (0 : Int) ≤ (i : Int) := by omega
    have b2 : (i : Int) < (n : Int) := by omega
    have hsl := hri.sl
    have hrw : RI w1 (.slice none 0 0) [] := Rw.nil _
    have hlen : LenIs ([] : List Int) s.ids l := by unfold LenIs; rw [HL.out]; simp
    have h63 : l ≤ 1000000 := by omega
    clear h1 hri hsm
    go_wp2_with (at_builtin; refine wpList_appN tyI encI_ok (by rfl) _ _ (by rfl) hrw (by rfl) hsl (by rfl) hlen h63 ?_)
    intro a' c' w5 hr5 hS5 hg5
    have he5 := hS5 [] (by simp [Value.ownBlock])
    have HR5 := Lib.hid hr5; have HE5 := Lib.hid he5; have HG5 := Lib.hid hg5
    clear hr5 hS5 he5 hg5 hsl hrw hlen hcv c6
    go_wp2_with fail
    refine bodyPost_ret (v := .slice a' l c') (by simp [results, Try.results28, go_sem]) rfl ?_
    unfold MemP
    rw [HM.out, ← HL.out]
    exact ⟨a', c', rfl, by simpa using HR5.out, e1.trans HE5.out (by simp), fun g hg => Nat.le_trans e1.size ((HG5.out g hg).elim (fun h => by simp [Value.ownBlock] at h) id)⟩
end Go.Proofs.Ytkbjpackijdnkaa
