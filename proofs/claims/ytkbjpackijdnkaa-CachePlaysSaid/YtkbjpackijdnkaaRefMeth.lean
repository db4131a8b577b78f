/- The document's cache: Method, Header, by contract. -/
import Derived.Test.YtkbjpackijdnkaaRefCache2
import Derived.Test.YtkbjpackijdnkaaCaRef
namespace Go.Proofs.Ytkbjpackijdnkaa
open Go.RowKit Go.Proofs.YtkbjpackijdnkaaW.PrintLast
set_option linter.unusedVariables false
set_option linter.unusedSimpArgs false

theorem star_list : star.toList = [42] := by rw [ByteArray.toList_eq]; rfl
theorem rmethE_form (c : Cel) (m : ByteArray) (now : Int) (e : Ent) : rmethE c m now e = (ofCell c e && decide (now < e.til) && e.head.toList.isEmpty && ((e.meth.toList == m.toList) || ((e.meth.toList == [42]) && !c.creds))) := by
  unfold rmethE
  rw [emp_isEmpty, ← star_list, bytes_beq, bytes_beq]
theorem rheadE_form (c : Cel) (l : ByteArray) (now : Int) (e : Ent) : rheadE c l now e = (ofCell c e && decide (now < e.til) && e.meth.toList.isEmpty && ((e.head.toList == l.toList) || ((e.head.toList == [42]) && !c.creds && !(l.toList == [97, 117, 116, 104, 111, 114, 105, 122, 97, 116, 105, 111, 110])))) := by
  unfold rheadE
  rw [emp_isEmpty, ← secret_list, ← star_list, bytes_beq, bytes_beq, bytes_beq]
/-- An entry is not of a cell: where it differs. -/
theorem cell_split {c : Cel} {x : Ent} (h : ofCell c x = false) : (¬ x.org.toList = c.org.toList) ∨ (x.org = c.org ∧ ¬ x.url.toList = c.url.toList) ∨ (x.org = c.org ∧ x.url = c.url ∧ x.creds = !c.creds) := by
  unfold ofCell at h
  by_cases g1 : x.org = c.org
  · by_cases g2 : x.url = c.url
    · right; right
      refine ⟨g1, g2, ?_⟩
      simp only [g1, g2, decide_true, Bool.true_and] at h
      revert h
      cases x.creds <;> cases c.creds <;> simp
    · right; left; exact ⟨g1, fun h => g2 (bytes_inj.1 h)⟩
  · left; exact fun h => g1 (bytes_inj.1 h)
theorem cell_of {c : Cel} {x : Ent} (h : ofCell c x = true) : x.org = c.org ∧ x.url = c.url ∧ x.creds = c.creds := by
  unfold ofCell at h
  simp only [Bool.and_eq_true, decide_eq_true_eq, beq_iff_eq] at h
  exact ⟨h.1.1, h.1.2, h.2⟩

set_option maxHeartbeats 16000000 in
set_option maxRecDepth 100000 in
theorem cr_method (most : Int) (b : Nat) (S : List Nat) (xs : List Ent) (c : Cel) (m : ByteArray) (now : Int) (hx : xs.length < 10000) (hk : KindOk xs) (w : World) (h : CR most w b S xs) :
    Calls Try.prog 38 #[.pointer (some ⟨b, 0, none⟩), .agg (encC c).toArray, .string m, .int .u64 now] w fun e w' => e = .returned (.bool (methM xs c m now)) ∧ Ext [] w w' := by
  rw [← meth_ref hk]
  obtain ⟨co, cu, cr⟩ := c
  obtain ⟨v, h, hS⟩ := h
  obtain ⟨va, cap, rfl⟩ := h.row.val
  obtain ⟨n, hn⟩ : ∃ n, n = xs.length := ⟨_, rfl⟩
  rw [← hn] at h hx
  obtain ⟨r, hr⟩ : ∃ r, r = xs.any (rmethE ⟨co, cu, cr⟩ m now) := ⟨_, rfl⟩
  rw [← hr]
  have hX : Blk (w.alloc (.cells #[.string co, .string cu, .bool cr] 33 (0, 0))) w.heap.size #[.string co, .string cu, .bool cr] 33 := Blk.new _ _ _
  have e0 : Ext [] w (w.alloc (.cells #[.string co, .string cu, .bool cr] 33 (0, 0))) := (Ext.refl _ _).alloc _
  have HH := Lib.hid h; have HN := Lib.hid hn; have HX := Lib.hid hX; have HE := Lib.hid e0; have HR := Lib.hid hr; have HK := Lib.hid hk
  clear h hS hn hX e0 hr hk
  unfold encC
  go_enter Try.func38, Try.ntmps38
  go_wp2_with fail
  have hXw := HX.out; have e0 := HE.out
  generalize w.alloc (Obj.cells #[Value.string co, Value.string cu, Value.bool cr] 33) = w0 at hXw e0 ⊢
  obtain ⟨X, hXe⟩ : ∃ X, w.heap.size = X := ⟨_, rfl⟩
  rw [hXe] at hXw ⊢
  have HXw := Lib.hid hXw; have HE0 := Lib.hid e0
  clear hXw e0 HX HE hXe
  go_loopw [9] (fun iv wr => ∃ (k : Nat), k ≤ n ∧ iv = .int .i64 k ∧ Ext [] w0 wr ∧ Hid (∀ (j : Nat) x, j < k → xs[j]? = some x → rmethE ⟨co, cu, cr⟩ m now x = false)) (fun iv _ => n - (intOf iv).toNat)
  case atStart => exact ⟨0, Nat.zero_le _, rfl, Ext.refl _ _, fun j x hj => absurd hj (Nat.not_lt_zero _)⟩
  case round =>
  obtain ⟨k, hkn, rfl, her, hall⟩ := hrel
  have hTr := HH.out.keep (HE0.out.trans her (by simp)) (by simp)
  have hcv : wr.cell? ⟨b, 1, none⟩ = some (.slice va n cap) := hTr.blk.cell 1
  by_cases hk : k < n
  · have d1 : decide (k < n) = true := decide_eq_true hk
    obtain ⟨x, hxk⟩ : ∃ x, xs[k]? = some x := ⟨_, List.getElem?_eq_getElem (by rw [← HN.out]; exact hk)⟩
    obtain ⟨g, rfl, hgl⟩ := hTr.row.addr (by omega)
    have l0 := hTr.row.cell encE_ok.len hxk 0 (by omega); have l1 := hTr.row.cell encE_ok.len hxk 1 (by omega); have l2 := hTr.row.cell encE_ok.len hxk 2 (by omega)
    have l3 := hTr.row.cell encE_ok.len hxk 3 (by omega); have l4 := hTr.row.cell encE_ok.len hxk 4 (by omega); have l5 := hTr.row.cell encE_ok.len hxk 5 (by omega)
    simp only [encE, Nat.add_zero, List.getElem?_cons_zero, List.getElem?_cons_succ] at l0 l1 l2 l3 l4 l5
    have hXr := HXw.out.keep her (by simp)
    have q0 := hXr.cell 0; have q1 := hXr.cell 1; have q2 := hXr.cell 2
    simp only [List.getElem?_toArray, List.getElem?_cons_zero, List.getElem?_cons_succ] at q0 q1 q2
    have hXl := hXr.lt
    have b1 : (0 : Int) ≤ (k : Int) := by omega
    have b2 : (k : Int) < (n : Int) := by omega
    have hnext : rmethE ⟨co, cu, cr⟩ m now x = false → Hid (∀ (j : Nat) x, j < k + 1 → xs[j]? = some x → rmethE ⟨co, cu, cr⟩ m now x = false) := fun hc j y hj hy => by
      rcases Nat.lt_or_ge j k with h1 | h1
      · exact hall.out j y h1 hy
      · have : j = k := by omega
        rw [this, hxk] at hy
        injection hy with hy
        rw [← hy]; exact hc
    have hany : rmethE ⟨co, cu, cr⟩ m now x = true → r = true := fun hc => by
      rw [HR.out, List.any_eq_true]; exact ⟨x, List.mem_of_getElem? hxk, hc⟩
    have HNX := Lib.hid hnext; have HAN := Lib.hid hany
    clear hnext hxk hall hTr hXr hany HR
    cases hc : ofCell ⟨co, cu, cr⟩ x with
    | false =>
      have hsp := cell_split hc
      have HFO : Hid (rmethE ⟨co, cu, cr⟩ m now x = false) := by show _ = _; rw [rmethE_form, hc]; rfl
      obtain ⟨xo, xu, xc, xm, xh, xt⟩ := x
      simp only at hsp l0 l1 l2 l3 l4 l5
      clear hc
      rcases hsp with hne | ⟨rfl, hne⟩ | ⟨rfl, rfl, hne⟩
      · skip
        go_wp2_with fail
        exact ⟨⟨k + 1, by omega, by go_num, her.alloc _, HNX.out HFO.out⟩, by simp [intOf]; omega⟩
      · skip
        go_wp2_with fail
        exact ⟨⟨k + 1, by omega, by go_num, her.alloc _, HNX.out HFO.out⟩, by simp [intOf]; omega⟩
      · subst hne
        cases cr with
        | true =>
          go_wp2_with fail
          exact ⟨⟨k + 1, by omega, by go_num, her.alloc _, HNX.out HFO.out⟩, by simp [intOf]; omega⟩
        | false =>
          go_wp2_with fail
          exact ⟨⟨k + 1, by omega, by go_num, her.alloc _, HNX.out HFO.out⟩, by simp [intOf]; omega⟩
    | true =>
      have hcc := cell_of hc
      have HFO := Lib.hid (rmethE_form ⟨co, cu, cr⟩ m now x)
      rw [hc] at HFO
      obtain ⟨xo, xu, xc, xm, xh, xt⟩ := x
      simp only at hcc l0 l1 l2 l3 l4 l5 HFO
      obtain ⟨rfl, rfl, rfl⟩ := hcc
      clear hc
      cases g1 : decide (now < xt) with
      | false =>
        rw [g1] at HFO
        go_wp2_with fail
        exact ⟨⟨k + 1, by omega, by go_num, her.alloc _, HNX.out (by rw [HFO.out]; rfl)⟩, by simp [intOf]; omega⟩
      | true =>
        rw [g1] at HFO
        cases g2 : xh.toList.isEmpty with
        | false =>
          rw [g2] at HFO
          go_wp2_with fail
          exact ⟨⟨k + 1, by omega, by go_num, her.alloc _, HNX.out (by rw [HFO.out]; rfl)⟩, by simp [intOf]; omega⟩
        | true =>
          rw [g2] at HFO
          cases g3 : (xm.toList == m.toList) with
          | true =>
            rw [g3] at HFO
            go_wp2_with fail
            refine bodyPost_ret (v := .bool true) (by simp [results, Try.results38, go_sem]) rfl ?_
            exact ⟨ret_bool (HAN.out (by rw [HFO.out]; rfl)), HE0.out.trans (her.alloc _) (by simp)⟩
          | false =>
            rw [g3] at HFO
            cases g4 : (xm.toList == [42]) with
            | false =>
              rw [g4] at HFO
              go_wp2_with fail
              exact ⟨⟨k + 1, by omega, by go_num, her.alloc _, HNX.out (by rw [HFO.out]; rfl)⟩, by simp [intOf]; omega⟩
            | true =>
              rw [g4] at HFO
              cases xc with
              | true =>
                go_wp2_with fail
                exact ⟨⟨k + 1, by omega, by go_num, her.alloc _, HNX.out (by rw [HFO.out]; rfl)⟩, by simp [intOf]; omega⟩
              | false =>
                go_wp2_with fail
                refine bodyPost_ret (v := .bool true) (by simp [results, Try.results38, go_sem]) rfl ?_
                exact ⟨ret_bool (HAN.out (by rw [HFO.out]; rfl)), HE0.out.trans (her.alloc _) (by simp)⟩
  · have d1 : decide (k < n) = false := decide_eq_false hk
    have hnone : r = false := by
      rw [HR.out, List.any_eq_false]
      intro x hx
      obtain ⟨j, hj⟩ := List.mem_iff_getElem?.1 hx
      rw [hall.out j x (by have := (List.getElem?_eq_some_iff.1 hj).1; have := HN.out; omega) hj]
      simp
    have HNO := Lib.hid hnone
    clear hnone hall hTr
    go_wp2_with fail
    refine bodyPost_ret (v := .bool false) (by simp [results, Try.results38, go_sem]) rfl ?_
    exact ⟨ret_bool HNO.out, HE0.out.trans her (by simp)⟩

set_option maxHeartbeats 16000000 in
set_option maxRecDepth 100000 in
theorem cr_header (most : Int) (b : Nat) (S : List Nat) (xs : List Ent) (c : Cel) (m : ByteArray) (hnm : m.size ≤ 140737488351232) (now : Int) (hx : xs.length < 10000) (hk : KindOk xs) (w : World) (h : CR most w b S xs) :
    Calls Try.prog 41 #[.pointer (some ⟨b, 0, none⟩), .agg (encC c).toArray, .string m, .int .u64 now] w fun e w' => e = .returned (.bool (headM xs c m now)) ∧ Ext [] w w' := by
  rw [← head_ref hk]
  obtain ⟨co, cu, cr⟩ := c
  obtain ⟨v, h, hS⟩ := h
  obtain ⟨va, cap, rfl⟩ := h.row.val
  obtain ⟨n, hn⟩ : ∃ n, n = xs.length := ⟨_, rfl⟩
  rw [← hn] at h hx
  have hlo := fun W => rlower_any m hnm W
  have HLO := Lib.hid hlo
  clear hlo
  generalize lowS m = l at HLO ⊢
  obtain ⟨r, hr⟩ : ∃ r, r = xs.any (rheadE ⟨co, cu, cr⟩ l now) := ⟨_, rfl⟩
  rw [← hr]
  have hX : Blk (w.alloc (.cells #[.string co, .string cu, .bool cr] 33 (0, 0))) w.heap.size #[.string co, .string cu, .bool cr] 33 := Blk.new _ _ _
  have e0 : Ext [] w (w.alloc (.cells #[.string co, .string cu, .bool cr] 33 (0, 0))) := (Ext.refl _ _).alloc _
  have HH := Lib.hid h; have HN := Lib.hid hn; have HX := Lib.hid hX; have HE := Lib.hid e0; have HR := Lib.hid hr; have HK := Lib.hid hk
  clear h hS hn hX e0 hr hk
  unfold encC
  go_enter Try.func41, Try.ntmps41
  go_wp2_with fail
  refine (HLO.out _).mono ?_
  rintro e w0 ⟨rfl, x1⟩
  have hXw := HX.out.keep x1 (by simp); have e0 := HE.out.trans x1 (by simp)
  clear x1 HLO
  go_wp2_with fail
  obtain ⟨X, hXe⟩ : ∃ X, w.heap.size = X := ⟨_, rfl⟩
  rw [hXe] at hXw ⊢
  have HXw := Lib.hid hXw; have HE0 := Lib.hid e0
  clear hXw e0 HX HE hXe
  go_loopw [10] (fun iv wr => ∃ (k : Nat), k ≤ n ∧ iv = .int .i64 k ∧ Ext [] w0 wr ∧ Hid (∀ (j : Nat) x, j < k → xs[j]? = some x → rheadE ⟨co, cu, cr⟩ l now x = false)) (fun iv _ => n - (intOf iv).toNat)
  case atStart => exact ⟨0, Nat.zero_le _, rfl, Ext.refl _ _, fun j x hj => absurd hj (Nat.not_lt_zero _)⟩
  case round =>
  obtain ⟨k, hkn, rfl, her, hall⟩ := hrel
  have hTr := HH.out.keep (HE0.out.trans her (by simp)) (by simp)
  have hcv : wr.cell? ⟨b, 1, none⟩ = some (.slice va n cap) := hTr.blk.cell 1
  by_cases hk : k < n
  · have d1 : decide (k < n) = true := decide_eq_true hk
    obtain ⟨x, hxk⟩ : ∃ x, xs[k]? = some x := ⟨_, List.getElem?_eq_getElem (by rw [← HN.out]; exact hk)⟩
    obtain ⟨g, rfl, hgl⟩ := hTr.row.addr (by omega)
    have l0 := hTr.row.cell encE_ok.len hxk 0 (by omega); have l1 := hTr.row.cell encE_ok.len hxk 1 (by omega); have l2 := hTr.row.cell encE_ok.len hxk 2 (by omega)
    have l3 := hTr.row.cell encE_ok.len hxk 3 (by omega); have l4 := hTr.row.cell encE_ok.len hxk 4 (by omega); have l5 := hTr.row.cell encE_ok.len hxk 5 (by omega)
    simp only [encE, Nat.add_zero, List.getElem?_cons_zero, List.getElem?_cons_succ] at l0 l1 l2 l3 l4 l5
    have hXr := HXw.out.keep her (by simp)
    have q0 := hXr.cell 0; have q1 := hXr.cell 1; have q2 := hXr.cell 2
    simp only [List.getElem?_toArray, List.getElem?_cons_zero, List.getElem?_cons_succ] at q0 q1 q2
    have hXl := hXr.lt
    have b1 : (0 : Int) ≤ (k : Int) := by omega
    have b2 : (k : Int) < (n : Int) := by omega
    have hnext : rheadE ⟨co, cu, cr⟩ l now x = false → Hid (∀ (j : Nat) x, j < k + 1 → xs[j]? = some x → rheadE ⟨co, cu, cr⟩ l now x = false) := fun hc j y hj hy => by
      rcases Nat.lt_or_ge j k with h1 | h1
      · exact hall.out j y h1 hy
      · have : j = k := by omega
        rw [this, hxk] at hy
        injection hy with hy
        rw [← hy]; exact hc
    have hany : rheadE ⟨co, cu, cr⟩ l now x = true → r = true := fun hc => by
      rw [HR.out, List.any_eq_true]; exact ⟨x, List.mem_of_getElem? hxk, hc⟩
    have HNX := Lib.hid hnext; have HAN := Lib.hid hany
    clear hnext hxk hall hTr hXr hany HR
    cases hc : ofCell ⟨co, cu, cr⟩ x with
    | false =>
      have hsp := cell_split hc
      have HFO : Hid (rheadE ⟨co, cu, cr⟩ l now x = false) := by show _ = _; rw [rheadE_form, hc]; rfl
      obtain ⟨xo, xu, xc, xm, xh, xt⟩ := x
      simp only at hsp l0 l1 l2 l3 l4 l5
      clear hc
      rcases hsp with hne | ⟨rfl, hne⟩ | ⟨rfl, rfl, hne⟩
      · skip
        go_wp2_with fail
        exact ⟨⟨k + 1, by omega, by go_num, her.alloc _, HNX.out HFO.out⟩, by simp [intOf]; omega⟩
      · skip
        go_wp2_with fail
        exact ⟨⟨k + 1, by omega, by go_num, her.alloc _, HNX.out HFO.out⟩, by simp [intOf]; omega⟩
      · subst hne
        cases cr with
        | true =>
          go_wp2_with fail
          exact ⟨⟨k + 1, by omega, by go_num, her.alloc _, HNX.out HFO.out⟩, by simp [intOf]; omega⟩
        | false =>
          go_wp2_with fail
          exact ⟨⟨k + 1, by omega, by go_num, her.alloc _, HNX.out HFO.out⟩, by simp [intOf]; omega⟩
    | true =>
      have hcc := cell_of hc
      have HFO := Lib.hid (rheadE_form ⟨co, cu, cr⟩ l now x)
      rw [hc] at HFO
      obtain ⟨xo, xu, xc, xm, xh, xt⟩ := x
      simp only at hcc l0 l1 l2 l3 l4 l5 HFO
      obtain ⟨rfl, rfl, rfl⟩ := hcc
      clear hc
      cases g1 : decide (now < xt) with
      | false =>
        rw [g1] at HFO
        go_wp2_with fail
        exact ⟨⟨k + 1, by omega, by go_num, her.alloc _, HNX.out (by rw [HFO.out]; rfl)⟩, by simp [intOf]; omega⟩
      | true =>
        rw [g1] at HFO
        cases g2 : xm.toList.isEmpty with
        | false =>
          rw [g2] at HFO
          go_wp2_with fail
          exact ⟨⟨k + 1, by omega, by go_num, her.alloc _, HNX.out (by rw [HFO.out]; rfl)⟩, by simp [intOf]; omega⟩
        | true =>
          rw [g2] at HFO
          cases g3 : (xh.toList == l.toList) with
          | true =>
            rw [g3] at HFO
            go_wp2_with fail
            refine bodyPost_ret (v := .bool true) (by simp [results, Try.results41, go_sem]) rfl ?_
            exact ⟨ret_bool (HAN.out (by rw [HFO.out]; rfl)), HE0.out.trans (her.alloc _) (by simp)⟩
          | false =>
            rw [g3] at HFO
            cases g4 : (xh.toList == [42]) with
            | false =>
              rw [g4] at HFO
              go_wp2_with fail
              exact ⟨⟨k + 1, by omega, by go_num, her.alloc _, HNX.out (by rw [HFO.out]; rfl)⟩, by simp [intOf]; omega⟩
            | true =>
              rw [g4] at HFO
              cases xc with
              | true =>
                go_wp2_with fail
                exact ⟨⟨k + 1, by omega, by go_num, her.alloc _, HNX.out (by rw [HFO.out]; rfl)⟩, by simp [intOf]; omega⟩
              | false =>
                cases g5 : (l.toList == [97, 117, 116, 104, 111, 114, 105, 122, 97, 116, 105, 111, 110]) with
                | true =>
                  rw [g5] at HFO
                  go_wp2_with fail
                  exact ⟨⟨k + 1, by omega, by go_num, her.alloc _, HNX.out (by rw [HFO.out]; rfl)⟩, by simp [intOf]; omega⟩
                | false =>
                  rw [g5] at HFO
                  go_wp2_with fail
                  refine bodyPost_ret (v := .bool true) (by simp [results, Try.results41, go_sem]) rfl ?_
                  exact ⟨ret_bool (HAN.out (by rw [HFO.out]; rfl)), HE0.out.trans (her.alloc _) (by simp)⟩
  · have d1 : decide (k < n) = false := decide_eq_false hk
    have hnone : r = false := by
      rw [HR.out, List.any_eq_false]
      intro x hx
      obtain ⟨j, hj⟩ := List.mem_iff_getElem?.1 hx
      rw [hall.out j x (by have := (List.getElem?_eq_some_iff.1 hj).1; have := HN.out; omega) hj]
      simp
    have HNO := Lib.hid hnone
    clear hnone hall hTr
    go_wp2_with fail
    refine bodyPost_ret (v := .bool false) (by simp [results, Try.results41, go_sem]) rfl ?_
    exact ⟨ret_bool HNO.out, HE0.out.trans her (by simp)⟩
end Go.Proofs.Ytkbjpackijdnkaa
