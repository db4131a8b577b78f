/- The cache: Method; the statements' own Entries, by contract. -/
import Derived.Test.YtkbjpackijdnkaaCachePut2
namespace Go.Proofs.Ytkbjpackijdnkaa
open Go.RowKit Go.Proofs.YtkbjpackijdnkaaW.PrintLast
set_option linter.unusedVariables false
set_option linter.unusedSimpArgs false

def star : ByteArray := ⟨#[42]⟩
def entM (c : Cel) (m : ByteArray) : Ent := ⟨c.org, c.url, c.creds, m, emp, 0⟩
/-- Is a method let? -/
def methM (xs : List Ent) (c : Cel) (m : ByteArray) (now : Int) : Bool :=
  (!m.toList.isEmpty && xs.any (goodE (entM c m) now)) || (!c.creds && xs.any (goodE (entM c star) now))

set_option maxHeartbeats 1600000 in
theorem co_method (most : Int) (b : Nat) (S : List Nat) (xs : List Ent) (c : Cel) (m : ByteArray) (now : Int) (hx : xs.length < 10000) (w : World) (h : CO most w b S xs) :
    Calls Try.prog 20 #[.pointer (some ⟨b, 0, none⟩), .agg (encC c).toArray, .string m, .int .u64 now] w fun e w' => e = .returned (.bool (methM xs c m now)) ∧ Ext [] w w' := by
  have hc1 := fun W (hW : Ext [] w W) => co_has most b S xs (entM c m) now (by omega) W (h.keep0 hW)
  have hc2 := fun W (hW : Ext [] w W) => co_has most b S xs (entM c star) now (by omega) W (h.keep0 hW)
  have hm : methM xs c m now = ((!m.toList.isEmpty && xs.any (goodE (entM c m) now)) || (!c.creds && xs.any (goodE (entM c star) now))) := rfl
  generalize xs.any (goodE (entM c m) now) = p1 at hc1 hm
  generalize xs.any (goodE (entM c star) now) = p2 at hc2 hm
  obtain ⟨e0, he0⟩ : ∃ e, m.toList.isEmpty = e := ⟨_, rfl⟩
  obtain ⟨co, cu, cc⟩ := c
  rw [he0] at hm
  have hc1 : ∀ W, Ext [] w W → Calls Try.prog 57 #[.pointer (some ⟨b, 0, none⟩), .agg #[.string co, .string cu, .bool cc, .string m, .string ⟨#[]⟩, .int .u64 0], .int .u64 now] W fun e w' => e = .returned (.bool p1) ∧ Ext [] W w' := hc1
  have hc2 : ∀ W, Ext [] w W → Calls Try.prog 57 #[.pointer (some ⟨b, 0, none⟩), .agg #[.string co, .string cu, .bool cc, .string ⟨#[42]⟩, .string ⟨#[]⟩, .int .u64 0], .int .u64 now] W fun e w' => e = .returned (.bool p2) ∧ Ext [] W w' := hc2
  have HM := Lib.hid hm; have HC1 := Lib.hid hc1; have HC2 := Lib.hid hc2
  have hb : Blk (w.alloc (.cells #[.string co, .string cu, .bool cc] 33 (0, 0))) w.heap.size #[.string co, .string cu, .bool cc] 33 := Blk.new _ _ _
  have HB := Lib.hid hb
  have E0 : Ext [] w (w.alloc (.cells #[.string co, .string cu, .bool cc] 33 (0, 0))) := (Ext.refl _ _).alloc _
  have HE0 := Lib.hid E0
  clear hm hc1 hc2 h hx hb E0
  unfold encC
  cases e0 with
  | true =>
    cases cc with
    | true =>
      go_enter Try.func20, Try.ntmps20
      go_wp2_with fail
      go_ret
      exact ⟨ret_bool (by rw [HM.out]; simp), HE0.out⟩
    | false =>
      go_enter Try.func20, Try.ntmps20
      go_wp2_with fail
      refine (HC2.out _ HE0.out).mono ?_
      rintro e w1 ⟨rfl, x1⟩
      go_wp2_with fail
      go_ret
      exact ⟨ret_bool (by rw [HM.out]; simp), HE0.out.trans x1 (by simp)⟩
  | false =>
    cases p1 with
    | true =>
      go_enter Try.func20, Try.ntmps20
      go_wp2_with fail
      refine (HC1.out _ HE0.out).mono ?_
      rintro e w1 ⟨rfl, x1⟩
      go_wp2_with fail
      go_ret
      exact ⟨ret_bool (by rw [HM.out]; simp), HE0.out.trans x1 (by simp)⟩
    | false =>
      cases cc with
      | true =>
        go_enter Try.func20, Try.ntmps20
        go_wp2_with fail
        refine (HC1.out _ HE0.out).mono ?_
        rintro e w1 ⟨rfl, x1⟩
        have hb1 := HB.out.keep x1 (by simp)
        have k2 : w1.cell? ⟨w.heap.size, 2, none⟩ = some (.bool true) := hb1.cell 2
        clear hb1
        go_wp2_with fail
        go_ret
        exact ⟨ret_bool (by rw [HM.out]; simp), HE0.out.trans x1 (by simp)⟩
      | false =>
        go_enter Try.func20, Try.ntmps20
        go_wp2_with fail
        refine (HC1.out _ HE0.out).mono ?_
        rintro e w1 ⟨rfl, x1⟩
        have hb1 := HB.out.keep x1 (by simp)
        have k0 : w1.cell? ⟨w.heap.size, 0, none⟩ = some (.string co) := hb1.cell 0
        have k1 : w1.cell? ⟨w.heap.size, 1, none⟩ = some (.string cu) := hb1.cell 1
        have k2 : w1.cell? ⟨w.heap.size, 2, none⟩ = some (.bool false) := hb1.cell 2
        have x2 := HE0.out.trans x1 (by simp)
        clear hb1
        go_wp2_with fail
        refine (HC2.out _ x2).mono ?_
        rintro e w2 ⟨rfl, x3⟩
        go_wp2_with fail
        go_ret
        exact ⟨ret_bool (by rw [HM.out]; simp), x2.trans x3 (by simp)⟩

/-- Two entries are one. -/
theorem ent_ext {x y : Ent} (h : sameE x y = true) (ht : x.til = y.til) : x = y := by
  unfold sameE at h
  simp only [Bool.and_eq_true, decide_eq_true_eq, beq_iff_eq] at h
  obtain ⟨⟨⟨⟨h1, h2⟩, h3⟩, h4⟩, h5⟩ := h
  cases x; cases y
  simp_all

set_option maxHeartbeats 3200000 in
set_option maxRecDepth 100000 in
/-- Two lists of entries. -/
theorem entries_any (v v' : Value) (xs : List Ent) (hx : xs.length < 1000000) (w : World) (h : Rw encE 6 35 w v xs) (h' : Rw encE 6 35 w v' xs) :
    Calls Try.prog 17 #[v, v'] w fun e w' => e = .returned (.bool true) ∧ Ext [] w w' := by
  obtain ⟨a, cap, rfl⟩ := h.val
  obtain ⟨a', cap', rfl⟩ := h'.val
  obtain ⟨n, hn⟩ : ∃ n, n = xs.length := ⟨_, rfl⟩
  rw [← hn] at h h' ⊢
  have HN := Lib.hid hn
  have hn1 : n < 1000000 := by omega
  have HH := Lib.hid h; have HH' := Lib.hid h'
  clear hn hx h h'
  go_enter Try.func17, Try.ntmps17
  go_wp2_with fail
  go_loopw [5] (fun iv wr => ∃ (k : Nat), k ≤ n ∧ iv = .int .i64 k ∧ Ext [] w wr) (fun iv _ => n - (intOf iv).toNat)
  case atStart => exact ⟨0, Nat.zero_le _, rfl, Ext.refl _ _⟩
  case round =>
    obtain ⟨k, hkn, rfl, her⟩ := hrel
    by_cases hk : k < n
    · obtain ⟨t, ht⟩ : ∃ t, xs[k]? = some t := ⟨_, List.getElem?_eq_getElem (by rw [← HN.out]; exact hk)⟩
      have d1 : decide (k < n) = true := decide_eq_true hk
      have hr := HH.out.keep her (by simp); have hr' := HH'.out.keep her (by simp)
      obtain ⟨g, rfl, hlt⟩ := hr.addr (by omega)
      obtain ⟨g', rfl, hlt'⟩ := hr'.addr (by omega)
      have l0 := hr.cell encE_ok.len ht 0 (by omega); have l1 := hr.cell encE_ok.len ht 1 (by omega); have l2 := hr.cell encE_ok.len ht 2 (by omega)
      have l3 := hr.cell encE_ok.len ht 3 (by omega); have l4 := hr.cell encE_ok.len ht 4 (by omega); have l5 := hr.cell encE_ok.len ht 5 (by omega)
      have m0 := hr'.cell encE_ok.len ht 0 (by omega); have m1 := hr'.cell encE_ok.len ht 1 (by omega); have m2 := hr'.cell encE_ok.len ht 2 (by omega)
      have m3 := hr'.cell encE_ok.len ht 3 (by omega); have m4 := hr'.cell encE_ok.len ht 4 (by omega); have m5 := hr'.cell encE_ok.len ht 5 (by omega)
      simp only [encE, Nat.add_zero, List.getElem?_cons_zero, List.getElem?_cons_succ] at l0 l1 l2 l3 l4 l5 m0 m1 m2 m3 m4 m5
      have b1 : (0 : Int) ≤ (k : Int) := by omega
      have b2 : (k : Int) < (n : Int) := by omega
      clear ht hr hr'
      go_wp2_with fail
      go_quiet (fail)
      go_wp2_with fail
      exact ⟨⟨k + 1, by omega, by go_num, her.drewN _⟩, by simp [intOf]; omega⟩
    · have d1 : decide (k < n) = false := decide_eq_false hk
      go_wp2_with fail
      go_ret
      exact ⟨rfl, her⟩
end Go.Proofs.Ytkbjpackijdnkaa
