/- The document's cache: New, Sweep, by contract. -/
import Derived.Test.YtkbjpackijdnkaaCachePut2
namespace Go.Proofs.Ytkbjpackijdnkaa
open Go.RowKit Go.Proofs.YtkbjpackijdnkaaW.PrintLast
set_option linter.unusedVariables false
set_option linter.unusedSimpArgs false

abbrev CRT (most : Int) := @Ob Ent encE 6 35 (fun v => #[.int .i64 most, v]) 71
abbrev CR (most : Int) := @OO Ent encE 6 35 (fun v => #[.int .i64 most, v]) 71

set_option maxHeartbeats 800000 in
theorem rnewC_any (m : Int) (w : World) : Calls Try.prog 32 #[.int .i64 m] w fun e w' => e = .returned (.pointer (some ⟨w.heap.size, 0, none⟩)) ∧ CR (clampC m) w' w.heap.size [w.heap.size] [] ∧ Ext [] w w' := by
  have key : ∀ most : Int, CR most (w.alloc (.cells #[.int .i64 most, .slice none 0 0] 71)) w.heap.size [w.heap.size] [] := fun most => ⟨.slice none 0 0, ⟨Blk.new _ _ _, Rw.nil _, by simp [Value.ownBlock]⟩, rfl⟩
  have K := Lib.hid key
  clear key
  go_enter Try.func32, Try.ntmps32
  go_wp2
  all_goals
    go_ret
    refine ⟨rfl, ?_, (Ext.refl _ _).alloc _⟩
    first
      | (have e : clampC m = min (max m 1) 64 := by (unfold clampC; omega)
         rw [e]; exact K.out _)
      | exact K.out _
      | (have e : clampC m = 64 := by (unfold clampC; omega)
         rw [e]; exact K.out _)
      | (have e : clampC m = 1 := by (unfold clampC; omega)
         rw [e]; exact K.out _)
      | (have e : clampC m = m := by (unfold clampC; omega)
         rw [e]; exact K.out _)

/-- What a sweeping or clearing of the document's leaves. -/
def RDropP (most : Int) (b : Nat) (S : List Nat) (p : Ent → Bool) (xs : List Ent) (w : World) (e : Ending) (w' : World) : Prop :=
  e = .returned (.int .i64 ((xs.length : Int) - ((xs.filter fun x => !p x).length : Int))) ∧ Chg (fun w' S' => CR most w' b S' (xs.filter fun x => !p x)) S w w'

set_option maxHeartbeats 6400000 in
set_option maxRecDepth 100000 in
theorem cr_sweep (most : Int) (b : Nat) (S : List Nat) (xs : List Ent) (now : Int) (hx : xs.length < 10000) (w : World) (h : CR most w b S xs) :
    Calls Try.prog 36 #[.pointer (some ⟨b, 0, none⟩), .int .u64 now] w (RDropP most b S (lateE now) xs w) := by
  obtain ⟨v, h, hS⟩ := h
  obtain ⟨a, cap, rfl⟩ := h.row.val
  obtain ⟨n, hn⟩ : ∃ n, n = xs.length := ⟨_, rfl⟩
  rw [← hn] at h hx hS
  unfold RDropP
  rw [← hn]
  have HH := Lib.hid h; have HN := Lib.hid hn; have HS := Lib.hid hS
  have hbl := h.blk.lt
  clear h hn hS
  go_enter Try.func36, Try.ntmps36
  go_wp2_with fail
  go_loopw [5, 6] (fun lv iv wr => ∃ (k l2 : Nat) (a2 : Option Addr) (c2 : Nat), k ≤ n ∧ l2 ≤ k ∧ iv = .int .i64 k ∧ lv = .slice a2 l2 c2 ∧ Rw encE 6 35 wr (.slice a2 l2 c2) ((xs.take k).filter fun x => !lateE now x) ∧ Ext [] w wr ∧ Hid (∀ q, (Value.slice a2 l2 c2).ownBlock = some q → w.heap.size ≤ q)) (fun _ iv _ => n - (intOf iv).toNat)
  case atStart => exact ⟨0, 0, none, 0, Nat.zero_le _, Nat.le_refl _, rfl, rfl, by simpa using Rw.nil _, Ext.refl _ _, fun q hq => by simp [Value.ownBlock] at hq⟩
  case round =>
    obtain ⟨k, l2, a2, c2, hkn, hl2, rfl, rfl, hR, her, hfr⟩ := hrel
    have hw := HH.out.keep her (by simp)
    have hcv : wr.cell? ⟨b, 1, none⟩ = some (.slice a n cap) := hw.blk.cell 1
    by_cases hk : k < n
    · have d1 : decide (k < n) = true := decide_eq_true hk
      obtain ⟨x, hxk⟩ : ∃ x, xs[k]? = some x := ⟨_, List.getElem?_eq_getElem (by rw [← HN.out]; exact hk)⟩
      obtain ⟨g, rfl, hgl⟩ := hw.row.addr (by omega)
      have l0 := hw.row.cell encE_ok.len hxk 0 (by omega); have l1 := hw.row.cell encE_ok.len hxk 1 (by omega); have l2' := hw.row.cell encE_ok.len hxk 2 (by omega)
      have l3 := hw.row.cell encE_ok.len hxk 3 (by omega); have l4 := hw.row.cell encE_ok.len hxk 4 (by omega); have l5 := hw.row.cell encE_ok.len hxk 5 (by omega)
      simp only [encE, Nat.add_zero, List.getElem?_cons_zero, List.getElem?_cons_succ] at l0 l1 l2' l3 l4 l5
      have b1 : (0 : Int) ≤ (k : Int) := by omega
      have b2 : (k : Int) < (n : Int) := by omega
      have hfs := filter_step (p := fun x => !lateE now x) hxk
      have HFS := Lib.hid hfs
      by_cases hc : now < x.til
      · have d2 : decide (now < x.til) = true := decide_eq_true hc
        have hlt : lateE now x = false := by unfold lateE; exact decide_eq_false (by omega)
        rw [hlt] at HFS
        have hlen : LenIs ((xs.take k).filter fun x => !lateE now x) [x] (l2 + 1) := by unfold LenIs; rw [← hR.len]; rfl
        have h63 : l2 + 1 ≤ 1000000 := by omega
        have hsl := Sl.new (enc := encE) wr x 35
        have hrw := hR.alloc (.cells (encE x).toArray 35 (0, 0))
        unfold encE at hsl hrw
        clear hfs hxk hlt hR hw
        go_wp2_with (at_builtin; refine wpList_appN tyE encE_ok (by rfl) _ _ (by rfl) hrw (by rfl) hsl (by rfl) hlen h63 ?_)
        intro a5 c5 w5 hr5 hS5 hg5
        have e5 : Ext [] w w5 := (her.alloc _).fresh (hS5 (Value.slice a2 l2 c2).ownBlock.toList (by simp +contextual)) (fun q hq => hfr.out q (by simpa using hq))
        have hsz := her.size
        have hg6 : Hid (∀ q, (Value.slice a5 (l2 + 1) c5).ownBlock = some q → w.heap.size ≤ q) := fun q hq => (hg5 q hq).elim (hfr.out q) (fun h => by
          try simp only [World.size_alloc] at h
          omega)
        have hr6 : Rw encE 6 35 w5 (.slice a5 (l2 + 1) c5) ((xs.take (k + 1)).filter fun x => !lateE now x) := by rw [HFS.out]; exact hr5
        have HR6 := Lib.hid hr6; have E5 := Lib.hid e5
        clear hS5 hg5 hr5 hr6 e5 hsl hrw hlen hfr
        go_wp2_with fail
        exact ⟨⟨k + 1, l2 + 1, a5, c5, by omega, by omega, by go_num, rfl, HR6.out, E5.out, hg6⟩, by simp [intOf]; omega⟩
      · have d2 : decide (now < x.til) = false := decide_eq_false hc
        have hlt : lateE now x = true := by unfold lateE; exact decide_eq_true (by omega)
        rw [hlt] at HFS
        have HR := Lib.hid hR
        clear hfs hxk hlt hR hw
        go_wp2_with fail
        exact ⟨⟨k + 1, l2, a2, c2, by omega, by omega, by go_num, rfl, by rw [HFS.out]; simpa using HR.out, her, hfr⟩, by simp [intOf]; omega⟩
    · have d1 : decide (k < n) = false := decide_eq_false hk
      have hkn2 : (xs.take k) = xs := List.take_of_length_le (by rw [← HN.out]; omega)
      rw [hkn2] at hR
      obtain ⟨ys, hys⟩ : ∃ ys, ys = xs.filter fun x => !lateE now x := ⟨_, rfl⟩
      rw [← hys] at hR
      have hl := hR.len
      have hfin := HH.out.replaced her hR hfr.out 1 (by simp)
      have hfz : wr.frozen? ⟨b, 1, none⟩ = false := hw.blk.free 1
      have HF := Lib.hid hfin; have HYS := Lib.hid hys; have HL := Lib.hid hl
      clear hfin hR hw hkn2 hys hl
      go_wp2_with fail
      refine bodyPost_ret (v := .int .i64 ((n : Int) - (l2 : Int))) (by simp [results, Try.results36, go_sem]) rfl ?_
      rw [← HYS.out]
      refine ⟨by rw [← HL.out], _, ⟨_, HF.out.1, rfl⟩, HF.out.2.1.mono (fun q hq => .inl (by rw [HS.out]; simp at hq; simp [hq])), fun q hq => by rw [HS.out]; exact HF.out.2.2 q hq⟩
end Go.Proofs.Ytkbjpackijdnkaa
