/- The cache: Header, by contract. -/
import Derived.Test.YtkbjpackijdnkaaCacheMeth
import Derived.Test.YtkbjpackijdnkaaOctet
namespace Go.Proofs.Ytkbjpackijdnkaa
open Go.RowKit Go.Proofs.YtkbjpackijdnkaaW.PrintLast
set_option linter.unusedVariables false
set_option linter.unusedSimpArgs false

def secret : ByteArray := ⟨#[97, 117, 116, 104, 111, 114, 105, 122, 97, 116, 105, 111, 110]⟩
theorem secret_list : secret.toList = [97, 117, 116, 104, 111, 114, 105, 122, 97, 116, 105, 111, 110] := by rw [ByteArray.toList_eq]; rfl
def entH (c : Cel) (h : ByteArray) : Ent := ⟨c.org, c.url, c.creds, emp, h, 0⟩
/-- Is a header let? -/
def headM (xs : List Ent) (c : Cel) (nm : ByteArray) (now : Int) : Bool :=
  (!(lowS nm).toList.isEmpty && xs.any (goodE (entH c (lowS nm)) now)) || (!c.creds && !((lowS nm).toList == secret.toList) && xs.any (goodE (entH c star) now))

set_option maxHeartbeats 3200000 in
theorem co_header (most : Int) (b : Nat) (S : List Nat) (xs : List Ent) (c : Cel) (nm : ByteArray) (hnm : nm.size ≤ 140737488351232) (now : Int) (hx : xs.length < 10000) (w : World) (h : CO most w b S xs) :
    Calls Try.prog 21 #[.pointer (some ⟨b, 0, none⟩), .agg (encC c).toArray, .string nm, .int .u64 now] w fun e w' => e = .returned (.bool (headM xs c nm now)) ∧ Ext [] w w' := by
  have hlo := fun W => lower_any nm hnm W
  have hm : headM xs c nm now = ((!(lowS nm).toList.isEmpty && xs.any (goodE (entH c (lowS nm)) now)) || (!c.creds && !((lowS nm).toList == secret.toList) && xs.any (goodE (entH c star) now))) := rfl
  rw [secret_list] at hm
  generalize lowS nm = l at hlo hm
  have hc1 := fun W (hW : Ext [] w W) => co_has most b S xs (entH c l) now (by omega) W (h.keep0 hW)
  have hc2 := fun W (hW : Ext [] w W) => co_has most b S xs (entH c star) now (by omega) W (h.keep0 hW)
  generalize xs.any (goodE (entH c l) now) = p1 at hc1 hm
  generalize xs.any (goodE (entH c star) now) = p2 at hc2 hm
  obtain ⟨e0, he0⟩ : ∃ e, l.toList.isEmpty = e := ⟨_, rfl⟩
  obtain ⟨e1, he1⟩ : ∃ e, (l.toList == [97, 117, 116, 104, 111, 114, 105, 122, 97, 116, 105, 111, 110]) = e := ⟨_, rfl⟩
  obtain ⟨co, cu, cc⟩ := c
  rw [he0, he1] at hm
  have hc1 : ∀ W, Ext [] w W → Calls Try.prog 57 #[.pointer (some ⟨b, 0, none⟩), .agg #[.string co, .string cu, .bool cc, .string ⟨#[]⟩, .string l, .int .u64 0], .int .u64 now] W fun e w' => e = .returned (.bool p1) ∧ Ext [] W w' := hc1
  have hc2 : ∀ W, Ext [] w W → Calls Try.prog 57 #[.pointer (some ⟨b, 0, none⟩), .agg #[.string co, .string cu, .bool cc, .string ⟨#[]⟩, .string ⟨#[42]⟩, .int .u64 0], .int .u64 now] W fun e w' => e = .returned (.bool p2) ∧ Ext [] W w' := hc2
  have HM := Lib.hid hm; have HC1 := Lib.hid hc1; have HC2 := Lib.hid hc2; have HLO := Lib.hid hlo
  have hb : Blk (w.alloc (.cells #[.string co, .string cu, .bool cc] 33 (0, 0))) w.heap.size #[.string co, .string cu, .bool cc] 33 := Blk.new _ _ _
  have HB := Lib.hid hb
  have E0 : Ext [] w (w.alloc (.cells #[.string co, .string cu, .bool cc] 33 (0, 0))) := (Ext.refl _ _).alloc _
  have HE0 := Lib.hid E0
  clear hm hc1 hc2 h hx hb E0 hlo hnm
  unfold encC
  have key : ∀ (r : Bool) (hr : headM xs ⟨co, cu, cc⟩ nm now = r), Hid (headM xs ⟨co, cu, cc⟩ nm now = r) := fun r hr => hr
  clear key
  cases e0 with
  | true =>
    cases cc with
    | true =>
      go_enter Try.func21, Try.ntmps21
      go_wp2_with fail
      refine (HLO.out _).mono ?_
      rintro e w1 ⟨rfl, x1⟩
      have hb1 := HB.out.keep x1 (by simp)
      have k2 : w1.cell? ⟨w.heap.size, 2, none⟩ = some (.bool true) := hb1.cell 2
      clear hb1
      go_wp2_with fail
      go_ret
      exact ⟨ret_bool (by rw [HM.out]; simp), HE0.out.trans x1 (by simp)⟩
    | false =>
      cases e1 with
      | true =>
        go_enter Try.func21, Try.ntmps21
        go_wp2_with fail
        refine (HLO.out _).mono ?_
        rintro e w1 ⟨rfl, x1⟩
        have hb1 := HB.out.keep x1 (by simp)
        have k2 : w1.cell? ⟨w.heap.size, 2, none⟩ = some (.bool false) := hb1.cell 2
        clear hb1
        go_wp2_with fail
        go_ret
        exact ⟨ret_bool (by rw [HM.out]; simp), HE0.out.trans x1 (by simp)⟩
      | false =>
        go_enter Try.func21, Try.ntmps21
        go_wp2_with fail
        refine (HLO.out _).mono ?_
        rintro e w1 ⟨rfl, x1⟩
        have hb1 := HB.out.keep x1 (by simp)
        have k0 : w1.cell? ⟨w.heap.size, 0, none⟩ = some (.string co) := hb1.cell 0
        have k1 : w1.cell? ⟨w.heap.size, 1, none⟩ = some (.string cu) := hb1.cell 1
        have k2 : w1.cell? ⟨w.heap.size, 2, none⟩ = some (.bool false) := hb1.cell 2
        have x2 := HE0.out.trans x1 (by simp)
        clear hb1
        go_wp2_with fail
        refine (HC2.out _ x2).mono ?_
        rintro e w2 ⟨rfl, x3⟩
        go_wp2_with fail
        go_ret
        exact ⟨ret_bool (by rw [HM.out]; simp), x2.trans x3 (by simp)⟩
  | false =>
    cases p1 with
    | true =>
      go_enter Try.func21, Try.ntmps21
      go_wp2_with fail
      refine (HLO.out _).mono ?_
      rintro e w1 ⟨rfl, x1⟩
      have hb1 := HB.out.keep x1 (by simp)
      have k0 : w1.cell? ⟨w.heap.size, 0, none⟩ = some (.string co) := hb1.cell 0
      have k1 : w1.cell? ⟨w.heap.size, 1, none⟩ = some (.string cu) := hb1.cell 1
      have k2 : w1.cell? ⟨w.heap.size, 2, none⟩ = some (.bool cc) := hb1.cell 2
      have x2 := HE0.out.trans x1 (by simp)
      clear hb1
      go_wp2_with fail
      refine (HC1.out _ x2).mono ?_
      rintro e w2 ⟨rfl, x3⟩
      go_wp2_with fail
      go_ret
      exact ⟨ret_bool (by rw [HM.out]; simp), x2.trans x3 (by simp)⟩
    | false =>
      go_enter Try.func21, Try.ntmps21
      go_wp2_with fail
      refine (HLO.out _).mono ?_
      rintro e w1 ⟨rfl, x1⟩
      have hb1 := HB.out.keep x1 (by simp)
      have k0 : w1.cell? ⟨w.heap.size, 0, none⟩ = some (.string co) := hb1.cell 0
      have k1 : w1.cell? ⟨w.heap.size, 1, none⟩ = some (.string cu) := hb1.cell 1
      have k2 : w1.cell? ⟨w.heap.size, 2, none⟩ = some (.bool cc) := hb1.cell 2
      have x2 := HE0.out.trans x1 (by simp)
      have HB1 := Lib.hid hb1
      clear hb1
      go_wp2_with fail
      refine (HC1.out _ x2).mono ?_
      rintro e w2 ⟨rfl, x3⟩
      have hb2 := HB1.out.keep x3 (by simp)
      clear k0 k1 k2
      have k0 : w2.cell? ⟨w.heap.size, 0, none⟩ = some (.string co) := hb2.cell 0
      have k1 : w2.cell? ⟨w.heap.size, 1, none⟩ = some (.string cu) := hb2.cell 1
      have k2 : w2.cell? ⟨w.heap.size, 2, none⟩ = some (.bool cc) := hb2.cell 2
      have x4 := x2.trans x3 (by simp)
      clear hb2
      cases cc with
      | true =>
        go_wp2_with fail
        go_ret
        exact ⟨ret_bool (by rw [HM.out]; simp), x4⟩
      | false =>
        cases e1 with
        | true =>
          go_wp2_with fail
          go_ret
          exact ⟨ret_bool (by rw [HM.out]; simp), x4⟩
        | false =>
          go_wp2_with fail
          refine (HC2.out _ x4).mono ?_
          rintro e w5 ⟨rfl, x5⟩
          go_wp2_with fail
          go_ret
          exact ⟨ret_bool (by rw [HM.out]; simp), x4.trans x5 (by simp)⟩
end Go.Proofs.Ytkbjpackijdnkaa
