/- The document's cache: Clear, by contract. -/
import Derived.Test.YtkbjpackijdnkaaRefCache
namespace Go.Proofs.Ytkbjpackijdnkaa
open Go.RowKit Go.Proofs.YtkbjpackijdnkaaW.PrintLast
set_option linter.unusedVariables false
set_option linter.unusedSimpArgs false

set_option maxHeartbeats 6400000 in
set_option maxRecDepth 100000 in
theorem cr_clear (most : Int) (b : Nat) (S : List Nat) (xs : List Ent) (c : Cel) (hx : xs.length < 10000) (w : World) (h : CR most w b S xs) :
    Calls Try.prog 37 #[.pointer (some ⟨b, 0, none⟩), .agg (encC c).toArray] w (RDropP most b S (ofCell c) xs w) := by
  obtain ⟨co, cu, cr⟩ := c
  obtain ⟨v, h, hS⟩ := h
  obtain ⟨a, cap, rfl⟩ := h.row.val
  obtain ⟨n, hn⟩ : ∃ n, n = xs.length := ⟨_, rfl⟩
  rw [← hn] at h hx hS
  unfold RDropP
  rw [← hn]
  have HH := Lib.hid h; have HN := Lib.hid hn; have HS := Lib.hid hS
  have hbl := h.blk.lt
  have hB : Blk (w.alloc (.cells #[.string co, .string cu, .bool cr] 33 (0, 0))) w.heap.size #[.string co, .string cu, .bool cr] 33 := Blk.new _ _ _
  have e0 : Ext [] w (w.alloc (.cells #[.string co, .string cu, .bool cr] 33 (0, 0))) := (Ext.refl _ _).alloc _
  have HB := Lib.hid hB; have E0 := Lib.hid e0
  clear hB e0
  unfold encC
  clear h hn hS
  go_enter Try.func37, Try.ntmps37
  go_wp2_with fail
  have hB := HB.out; have e0 := E0.out
  generalize w.alloc (Obj.cells #[Value.string co, Value.string cu, Value.bool cr] 33) = w0 at hB e0 ⊢
  obtain ⟨X, hX⟩ : ∃ X, w.heap.size = X := ⟨_, rfl⟩
  rw [hX] at hB
  have HBX := Lib.hid hB; have E1 := Lib.hid e0
  clear hB e0 HB E0
  rw [hX]
  have hXge : w.heap.size ≤ X := by omega
  clear hX
  go_loopw [5, 6] (fun lv iv wr => ∃ (k l2 : Nat) (a2 : Option Addr) (c2 : Nat), k ≤ n ∧ l2 ≤ k ∧ iv = .int .i64 k ∧ lv = .slice a2 l2 c2 ∧ Rw encE 6 35 wr (.slice a2 l2 c2) ((xs.take k).filter fun x => !ofCell ⟨co, cu, cr⟩ x) ∧ Ext [] w0 wr ∧ Hid (∀ q, (Value.slice a2 l2 c2).ownBlock = some q → w0.heap.size ≤ q)) (fun _ iv _ => n - (intOf iv).toNat)
  case atStart => exact ⟨0, 0, none, 0, Nat.zero_le _, Nat.le_refl _, rfl, rfl, by simpa using Rw.nil _, Ext.refl _ _, fun q hq => by simp [Value.ownBlock] at hq⟩
  case round =>
    obtain ⟨k, l2, a2, c2, hkn, hl2, rfl, rfl, hR, her0, hfr0⟩ := hrel
    have hfr : Hid (∀ q, (Value.slice a2 l2 c2).ownBlock = some q → w.heap.size ≤ q) := fun q hq => Nat.le_trans E1.out.size (hfr0.out q hq)
    have her := E1.out.trans her0 (by simp)
    have hBk := HBX.out.keep her0 (by simp)
    have q0 := hBk.cell 0; have q1 := hBk.cell 1; have q2 := hBk.cell 2
    simp only [List.getElem?_toArray, List.getElem?_cons_zero, List.getElem?_cons_succ] at q0 q1 q2
    clear hBk
    have hw := HH.out.keep her (by simp)
    have hcv : wr.cell? ⟨b, 1, none⟩ = some (.slice a n cap) := hw.blk.cell 1
    by_cases hk : k < n
    · have d1 : decide (k < n) = true := decide_eq_true hk
      obtain ⟨x, hxk⟩ : ∃ x, xs[k]? = some x := ⟨_, List.getElem?_eq_getElem (by rw [← HN.out]; exact hk)⟩
      obtain ⟨g, rfl, hgl⟩ := hw.row.addr (by omega)
      have l0 := hw.row.cell encE_ok.len hxk 0 (by omega); have l1 := hw.row.cell encE_ok.len hxk 1 (by omega); have l2' := hw.row.cell encE_ok.len hxk 2 (by omega)
      have l3 := hw.row.cell encE_ok.len hxk 3 (by omega); have l4 := hw.row.cell encE_ok.len hxk 4 (by omega); have l5 := hw.row.cell encE_ok.len hxk 5 (by omega)
      simp only [encE, Nat.add_zero, List.getElem?_cons_zero, List.getElem?_cons_succ] at l0 l1 l2' l3 l4 l5
      have b1 : (0 : Int) ≤ (k : Int) := by omega
      have b2 : (k : Int) < (n : Int) := by omega
      have hfs := filter_step (p := fun x => !ofCell ⟨co, cu, cr⟩ x) hxk
      have HFS := Lib.hid hfs
      have hRw := hR
      by_cases hc : ofCell ⟨co, cu, cr⟩ x = true
      · rw [hc] at HFS
        have hcc : x.org = co ∧ x.url = cu ∧ x.creds = cr := by
          unfold ofCell at hc
          simp only [Bool.and_eq_true, decide_eq_true_eq, beq_iff_eq] at hc
          exact ⟨hc.1.1, hc.1.2, hc.2⟩
        rw [hcc.1] at l0; rw [hcc.2.1] at l1; rw [hcc.2.2] at l2'
        have HR := Lib.hid hR
        clear hfs hxk hc hR hw hRw hcc
        go_wp2_with fail
        go_quiet (fail)
        go_wp2_with fail
        exact ⟨⟨k + 1, l2, a2, c2, by omega, by omega, by go_num, rfl, by rw [HFS.out]; simpa using HR.out.keep ((Ext.refl [] _).drewN _) (by simp), her0.drewN _, hfr0⟩, by simp [intOf]; omega⟩
      · have hcf : ofCell ⟨co, cu, cr⟩ x = false := by simpa using hc
        rw [hcf] at HFS
        obtain ⟨xo, xu, xc, xm, xh, xt⟩ := x
        have hsplit : (¬ xo.toList = co.toList) ∨ (xo = co ∧ ¬ xu.toList = cu.toList) ∨ (xo = co ∧ xu = cu ∧ xc = !cr) := by
          unfold ofCell at hcf
          by_cases g1 : xo = co
          · by_cases g2 : xu = cu
            · right; right
              refine ⟨g1, g2, ?_⟩
              simp only [g1, g2, decide_true, Bool.true_and] at hcf
              revert hcf
              cases xc <;> cases cr <;> simp
            · right; left; exact ⟨g1, fun h => g2 (bytes_inj.1 h)⟩
          · left; exact fun h => g1 (bytes_inj.1 h)
        have hlen : LenIs ((xs.take k).filter fun x => !ofCell ⟨co, cu, cr⟩ x) [(⟨xo, xu, xc, xm, xh, xt⟩ : Ent)] (l2 + 1) := by unfold LenIs; rw [← hR.len]; rfl
        have h63 : l2 + 1 ≤ 1000000 := by omega
        have hsl := fun W => Sl.new (enc := encE) W ⟨xo, xu, xc, xm, xh, xt⟩ 35
        have hrw := fun nq => (hR.drewN nq).alloc (.cells (encE ⟨xo, xu, xc, xm, xh, xt⟩).toArray 35 (0, 0))
        unfold encE at hsl hrw
        have HRWf := Lib.hid hrw; have HSLf := Lib.hid hsl; have HLEN := Lib.hid hlen
        clear hfs hxk hR hw hc hcf hsl hrw hlen hRw
        rcases hsplit with hne | ⟨rfl, hne⟩ | ⟨rfl, rfl, rfl⟩
        · skip
          go_wp2_with fail
          go_quiet (fail)
          go_wp2_with (at_builtin; refine wpList_appN tyE encE_ok (by rfl) _ _ (by rfl) (HRWf.out nq) (by rfl) (HSLf.out _) (by rfl) HLEN.out h63 ?_)
          intro a5 c5 w5 hr5 hS5 hg5
          have e5 : Ext [] w0 w5 := ((her0.drewN nq).alloc _).fresh (hS5 (Value.slice a2 l2 c2).ownBlock.toList (by simp +contextual)) (fun q hq => Nat.le_trans (Nat.le_of_eq rfl) (hfr0.out q (by simpa using hq)))
          have hsz := her.size
          have hg6 : Hid (∀ q, (Value.slice a5 (l2 + 1) c5).ownBlock = some q → w0.heap.size ≤ q) := fun q hq => (hg5 q hq).elim (hfr0.out q) (fun h => by
            have h9 := her0.size
            try simp only [World.size_alloc] at h
            omega)
          have hr6 : Rw encE 6 35 w5 (.slice a5 (l2 + 1) c5) ((xs.take (k + 1)).filter fun x => !ofCell ⟨co, cu, cr⟩ x) := by rw [HFS.out]; exact hr5
          have HR6 := Lib.hid hr6; have E5 := Lib.hid e5
          clear hS5 hg5 hr5 hr6 e5
          go_wp2_with fail
          exact ⟨⟨k + 1, l2 + 1, a5, c5, by omega, by omega, by go_num, rfl, HR6.out, E5.out, hg6⟩, by simp [intOf]; omega⟩
        · skip
          go_wp2_with fail
          go_quiet (fail)
          go_wp2_with (at_builtin; refine wpList_appN tyE encE_ok (by rfl) _ _ (by rfl) (HRWf.out nq) (by rfl) (HSLf.out _) (by rfl) HLEN.out h63 ?_)
          intro a5 c5 w5 hr5 hS5 hg5
          have e5 : Ext [] w0 w5 := ((her0.drewN nq).alloc _).fresh (hS5 (Value.slice a2 l2 c2).ownBlock.toList (by simp +contextual)) (fun q hq => Nat.le_trans (Nat.le_of_eq rfl) (hfr0.out q (by simpa using hq)))
          have hsz := her.size
          have hg6 : Hid (∀ q, (Value.slice a5 (l2 + 1) c5).ownBlock = some q → w0.heap.size ≤ q) := fun q hq => (hg5 q hq).elim (hfr0.out q) (fun h => by
            have h9 := her0.size
            try simp only [World.size_alloc] at h
            omega)
          have hr6 : Rw encE 6 35 w5 (.slice a5 (l2 + 1) c5) ((xs.take (k + 1)).filter fun x => !ofCell ⟨xo, cu, cr⟩ x) := by rw [HFS.out]; exact hr5
          have HR6 := Lib.hid hr6; have E5 := Lib.hid e5
          clear hS5 hg5 hr5 hr6 e5
          go_wp2_with fail
          exact ⟨⟨k + 1, l2 + 1, a5, c5, by omega, by omega, by go_num, rfl, HR6.out, E5.out, hg6⟩, by simp [intOf]; omega⟩
        · cases cr with
          | true =>
            go_wp2_with fail
            go_quiet (fail)
            go_wp2_with (at_builtin; refine wpList_appN tyE encE_ok (by rfl) _ _ (by rfl) (HRWf.out nq) (by rfl) (HSLf.out _) (by rfl) HLEN.out h63 ?_)
            intro a5 c5 w5 hr5 hS5 hg5
            have e5 : Ext [] w0 w5 := ((her0.drewN nq).alloc _).fresh (hS5 (Value.slice a2 l2 c2).ownBlock.toList (by simp +contextual)) (fun q hq => Nat.le_trans (Nat.le_of_eq rfl) (hfr0.out q (by simpa using hq)))
            have hsz := her.size
            have hg6 : Hid (∀ q, (Value.slice a5 (l2 + 1) c5).ownBlock = some q → w0.heap.size ≤ q) := fun q hq => (hg5 q hq).elim (hfr0.out q) (fun h => by
              have h9 := her0.size
              try simp only [World.size_alloc] at h
              omega)
            have hr6 : Rw encE 6 35 w5 (.slice a5 (l2 + 1) c5) ((xs.take (k + 1)).filter fun x => !ofCell ⟨xo, xu, true⟩ x) := by rw [HFS.out]; exact hr5
            have HR6 := Lib.hid hr6; have E5 := Lib.hid e5
            clear hS5 hg5 hr5 hr6 e5
            go_wp2_with fail
            exact ⟨⟨k + 1, l2 + 1, a5, c5, by omega, by omega, by go_num, rfl, HR6.out, E5.out, hg6⟩, by simp [intOf]; omega⟩
          | false =>
            go_wp2_with fail
            go_quiet (fail)
            go_wp2_with (at_builtin; refine wpList_appN tyE encE_ok (by rfl) _ _ (by rfl) (HRWf.out nq) (by rfl) (HSLf.out _) (by rfl) HLEN.out h63 ?_)
            intro a5 c5 w5 hr5 hS5 hg5
            have e5 : Ext [] w0 w5 := ((her0.drewN nq).alloc _).fresh (hS5 (Value.slice a2 l2 c2).ownBlock.toList (by simp +contextual)) (fun q hq => Nat.le_trans (Nat.le_of_eq rfl) (hfr0.out q (by simpa using hq)))
            have hsz := her.size
            have hg6 : Hid (∀ q, (Value.slice a5 (l2 + 1) c5).ownBlock = some q → w0.heap.size ≤ q) := fun q hq => (hg5 q hq).elim (hfr0.out q) (fun h => by
              have h9 := her0.size
              try simp only [World.size_alloc] at h
              omega)
            have hr6 : Rw encE 6 35 w5 (.slice a5 (l2 + 1) c5) ((xs.take (k + 1)).filter fun x => !ofCell ⟨xo, xu, false⟩ x) := by rw [HFS.out]; exact hr5
            have HR6 := Lib.hid hr6; have E5 := Lib.hid e5
            clear hS5 hg5 hr5 hr6 e5
            go_wp2_with fail
            exact ⟨⟨k + 1, l2 + 1, a5, c5, by omega, by omega, by go_num, rfl, HR6.out, E5.out, hg6⟩, by simp [intOf]; omega⟩
    · have d1 : decide (k < n) = false := decide_eq_false hk
      have hkn2 : (xs.take k) = xs := List.take_of_length_le (by rw [← HN.out]; omega)
      rw [hkn2] at hR
      obtain ⟨ys, hys⟩ : ∃ ys, ys = xs.filter fun x => !ofCell ⟨co, cu, cr⟩ x := ⟨_, rfl⟩
      rw [← hys] at hR
      have hl := hR.len
      have hfin := HH.out.replaced her hR hfr.out 1 (by simp)
      have hfz : wr.frozen? ⟨b, 1, none⟩ = false := hw.blk.free 1
      have HF := Lib.hid hfin; have HYS := Lib.hid hys; have HL := Lib.hid hl
      clear hfin hR hw hkn2 hys hl
      go_wp2_with fail
      refine bodyPost_ret (v := .int .i64 ((n : Int) - (l2 : Int))) (by simp [results, Try.results37, go_sem]) rfl ?_
      rw [← HYS.out]
      refine ⟨by rw [← HL.out], _, ⟨_, HF.out.1, rfl⟩, HF.out.2.1.mono (fun q hq => .inl (by rw [HS.out]; simp at hq; simp [hq])), fun q hq => by rw [HS.out]; exact HF.out.2.2 q hq⟩

/-- The document's entries, as they stand in the object. -/
theorem CR.row {most : Int} {w : World} {b : Nat} {S : List Nat} {xs : List Ent} (h : CR most w b S xs) : ∃ a c, w.cell? ⟨b, 1, none⟩ = some (.slice a xs.length c) ∧ Rw encE 6 35 w (.slice a xs.length c) xs ∧ w.cell? ⟨b, 0, none⟩ = some (.int .i64 most) := by
  obtain ⟨v, h, rfl⟩ := h
  obtain ⟨a, c, rfl⟩ := h.row.val
  exact ⟨a, c, h.blk.cell 1, h.row, h.blk.cell 0⟩
end Go.Proofs.Ytkbjpackijdnkaa
