/- The cache: Covers; great of the statements, by contract. -/
import Derived.Test.YtkbjpackijdnkaaCacheHead
import Derived.Test.YtkbjpackijdnkaaSafe
import Derived.Test.YtkbjpackijdnkaaLong
namespace Go.Proofs.Ytkbjpackijdnkaa
open Go.RowKit Go.Proofs.YtkbjpackijdnkaaW.PrintLast
set_option linter.unusedVariables false
set_option linter.unusedSimpArgs false

/-- Is a request let? -/
def covM (xs : List Ent) (c : Cel) (m : ByteArray) (ns : List ByteArray) (now : Int) : Bool :=
  (safeS m || methM xs c m now) && ns.all fun nm => headM xs c nm now

set_option maxHeartbeats 6400000 in
set_option maxRecDepth 100000 in
theorem co_covers (most : Int) (b : Nat) (S : List Nat) (xs : List Ent) (c : Cel) (m : ByteArray) (hm : m.size ≤ 140737488351232) (na : Option Addr) (nn nc : Nat) (ns : List ByteArray) (hns : ∀ s ∈ ns, s.size ≤ 140737488351232) (hnn : nn < 1000000) (now : Int) (hx : xs.length < 10000) (w : World) (h : CO most w b S xs) (hs : Slc encS 1 w na nn ns) :
    Calls Try.prog 39 #[.pointer (some ⟨b, 0, none⟩), .agg (encC c).toArray, .string m, .slice na nn nc, .int .u64 now] w fun e w' => e = .returned (.bool (covM xs c m ns now)) ∧ Ext [] w w' := by
  have hsf := fun W => safe_any m hm W
  have hme := fun W (hW : Ext [] w W) => co_method most b S xs c m now hx W (h.keep0 hW)
  have hhe := fun nm (hnm : nm.size ≤ 140737488351232) W (hW : Ext [] w W) => co_header most b S xs c nm hnm now hx W (h.keep0 hW)
  have hcv : covM xs c m ns now = ((safeS m || methM xs c m now) && ns.all fun nm => headM xs c nm now) := rfl
  generalize safeS m = p1 at hsf hcv
  generalize methM xs c m now = p2 at hme hcv
  generalize hp : (fun nm => headM xs c nm now) = p at hcv
  have hhe : ∀ nm, nm.size ≤ 140737488351232 → ∀ W, Ext [] w W → Calls Try.prog 21 #[.pointer (some ⟨b, 0, none⟩), .agg (encC c).toArray, .string nm, .int .u64 now] W fun e w' => e = .returned (.bool (p nm)) ∧ Ext [] W w' := by
    intro nm hnm W hW
    rw [← hp]; exact hhe nm hnm W hW
  obtain ⟨co, cu, cr⟩ := c
  have hat : ∀ (i : Nat) z, ns[i]? = some z → ∃ B o, na = some ⟨B, o, none⟩ ∧ B < w.heap.size ∧ w.cell? ⟨B, o + i, none⟩ = some (.string z) := by
    obtain ⟨B, o, hh⟩ := hs.str_at
    exact fun i z hz => ⟨B, o, hh i z hz⟩
  have hnl := hs.1
  have hX : Blk (w.alloc (.cells #[.string co, .string cu, .bool cr] 33 (0, 0))) w.heap.size #[.string co, .string cu, .bool cr] 33 := Blk.new _ _ _
  have e0 : Ext [] w (w.alloc (.cells #[.string co, .string cu, .bool cr] 33 (0, 0))) := (Ext.refl _ _).alloc _
  have HSF := Lib.hid hsf; have HME := Lib.hid hme; have HHE := Lib.hid hhe; have HCV := Lib.hid hcv; have HAT := Lib.hid hat; have HNL := Lib.hid hnl; have HX := Lib.hid hX; have HE0 := Lib.hid e0; have HNS := Lib.hid hns
  clear hsf hme hhe hcv hp hat hnl hX e0 hns hs h hx hm
  unfold encC at HME HHE ⊢
  have loopOK : p1 = true ∨ p2 = true → Hid (covM xs ⟨co, cu, cr⟩ m ns now = ns.all p) := fun h => by
    show _ = _
    rw [HCV.out]; rcases h with h | h <;> simp [h]
  have HLO := Lib.hid loopOK
  clear loopOK
  go_enter Try.func39, Try.ntmps39
  go_wp2_with fail
  refine (HSF.out _).mono ?_
  rintro e w1 ⟨rfl, x1⟩
  have x2 := HE0.out.trans x1 (by simp)
  have hX1 := HX.out.keep x1 (by simp)
  have hXl := HX.out.lt
  have q0 := hX1.cell 0; have q1 := hX1.cell 1; have q2 := hX1.cell 2
  simp only [List.getElem?_toArray, List.getElem?_cons_zero, List.getElem?_cons_succ] at q0 q1 q2
  have HX1 := Lib.hid hX1
  clear hX1 x1
  generalize w.heap.size = X at HX HX1 q0 q1 q2 hXl ⊢
  cases p1 with
  | true =>
    have HLOO := HLO.out (.inl rfl)
    go_wp2_with fail
    clear q0 q1 q2
    go_loopw [30] (fun iv wx => ∃ (i : Nat), i ≤ nn ∧ iv = .int .i64 i ∧ Ext [] w1 wx ∧ Hid (ns.all p = (ns.drop i).all p)) (fun iv _ => nn - (intOf iv).toNat)
    case atStart => exact ⟨0, Nat.zero_le _, rfl, Ext.refl _ _, by simp [Hid]⟩
    case round =>
      obtain ⟨i, hin, rfl, her, hal⟩ := hrel
      have hX9 := HX1.out.keep her (by simp)
      by_cases hi : i < nn
      · have d1 : decide (i < nn) = true := decide_eq_true hi
        obtain ⟨z, hz⟩ : ∃ z, ns[i]? = some z := ⟨_, List.getElem?_eq_getElem (by rw [HNL.out]; exact hi)⟩
        obtain ⟨NB, no, rfl, hNB, hzc⟩ := HAT.out i z hz
        have xw := x2.trans her (by simp)
        have hz1 := (xw.cell (p := ⟨NB, no + i, none⟩) hNB (by simp)).trans hzc
        have hcall := HHE.out z (HNS.out z (List.mem_of_getElem? hz)) wr xw
        have hdr : ns.drop i = z :: ns.drop (i + 1) := by
          have hjl := (List.getElem?_eq_some_iff.1 hz).1
          have hjv := (List.getElem?_eq_some_iff.1 hz).2
          rw [List.drop_eq_getElem_cons hjl, hjv]
        have hst : ns.all p = (p z && (ns.drop (i + 1)).all p) := by rw [hal.out, hdr, List.all_cons]
        generalize p z = pz at hcall hst
        have b1 : (0 : Int) ≤ (i : Int) := by omega
        have b2 : (i : Int) < (nn : Int) := by omega
        have q0 := hX9.cell 0; have q1 := hX9.cell 1; have q2 := hX9.cell 2
        simp only [List.getElem?_toArray, List.getElem?_cons_zero, List.getElem?_cons_succ] at q0 q1 q2
        have HCALL := Lib.hid hcall; have HST := Lib.hid hst; have XW := Lib.hid xw; have HER := Lib.hid her
        clear hz hzc hdr hal hcall hst xw her hX9
        cases pz with
        | false =>
          go_wp2_with fail
          refine HCALL.out.mono ?_
          rintro e w9 ⟨rfl, x9⟩
          go_wp2_with fail
          go_ret
          exact ⟨ret_bool (by rw [HLOO.out, HST.out]; rfl), XW.out.trans x9 (by simp)⟩
        | true =>
          go_wp2_with fail
          refine HCALL.out.mono ?_
          rintro e w9 ⟨rfl, x9⟩
          go_wp2_with fail
          exact ⟨⟨i + 1, by omega, by go_num, HER.out.trans x9 (by simp), by show _ = _; rw [HST.out]; rfl⟩, by simp [intOf]; omega⟩
      · have d1 : decide (i < nn) = false := decide_eq_false hi
        have hfin : ns.all p = true := by rw [hal.out, List.drop_eq_nil_of_le (by rw [HNL.out]; omega)]; rfl
        have HFIN := Lib.hid hfin
        clear hal hfin hX9
        go_wp2_with fail
        go_ret
        exact ⟨ret_bool (by rw [HLOO.out, HFIN.out]), x2.trans her (by simp)⟩

  | false =>
    cases p2 with
    | false =>
      go_wp2_with fail
      refine (HME.out _ x2).mono ?_
      rintro e w2 ⟨rfl, x3⟩
      go_wp2_with fail
      go_ret
      exact ⟨ret_bool (by rw [HCV.out]; rfl), x2.trans x3 (by simp)⟩
    | true =>
      have HLOO := HLO.out (.inr rfl)
      go_wp2_with fail
      refine (HME.out _ x2).mono ?_
      rintro e w2 ⟨rfl, x3⟩
      have x4 := x2.trans x3 (by simp)
      have hX2 := HX1.out.keep x3 (by simp)
      clear HX1 x2 x3
      have HX1 := Lib.hid hX2
      clear hX2
      go_wp2_with fail
      clear q0 q1 q2
      go_loopw [30] (fun iv wx => ∃ (i : Nat), i ≤ nn ∧ iv = .int .i64 i ∧ Ext [] w2 wx ∧ Hid (ns.all p = (ns.drop i).all p)) (fun iv _ => nn - (intOf iv).toNat)
      case atStart => exact ⟨0, Nat.zero_le _, rfl, Ext.refl _ _, by simp [Hid]⟩
      case round =>
        obtain ⟨i, hin, rfl, her, hal⟩ := hrel
        have hX9 := HX1.out.keep her (by simp)
        by_cases hi : i < nn
        · have d1 : decide (i < nn) = true := decide_eq_true hi
          obtain ⟨z, hz⟩ : ∃ z, ns[i]? = some z := ⟨_, List.getElem?_eq_getElem (by rw [HNL.out]; exact hi)⟩
          obtain ⟨NB, no, rfl, hNB, hzc⟩ := HAT.out i z hz
          have xw := x4.trans her (by simp)
          have hz1 := (xw.cell (p := ⟨NB, no + i, none⟩) hNB (by simp)).trans hzc
          have hcall := HHE.out z (HNS.out z (List.mem_of_getElem? hz)) wr xw
          have hdr : ns.drop i = z :: ns.drop (i + 1) := by
            have hjl := (List.getElem?_eq_some_iff.1 hz).1
            have hjv := (List.getElem?_eq_some_iff.1 hz).2
            rw [List.drop_eq_getElem_cons hjl, hjv]
          have hst : ns.all p = (p z && (ns.drop (i + 1)).all p) := by rw [hal.out, hdr, List.all_cons]
          generalize p z = pz at hcall hst
          have b1 : (0 : Int) ≤ (i : Int) := by omega
          have b2 : (i : Int) < (nn : Int) := by omega
          have q0 := hX9.cell 0; have q1 := hX9.cell 1; have q2 := hX9.cell 2
          simp only [List.getElem?_toArray, List.getElem?_cons_zero, List.getElem?_cons_succ] at q0 q1 q2
          have HCALL := Lib.hid hcall; have HST := Lib.hid hst; have XW := Lib.hid xw; have HER := Lib.hid her
          clear hz hzc hdr hal hcall hst xw her hX9
          cases pz with
          | false =>
            go_wp2_with fail
            refine HCALL.out.mono ?_
            rintro e w9 ⟨rfl, x9⟩
            go_wp2_with fail
            go_ret
            exact ⟨ret_bool (by rw [HLOO.out, HST.out]; rfl), XW.out.trans x9 (by simp)⟩
          | true =>
            go_wp2_with fail
            refine HCALL.out.mono ?_
            rintro e w9 ⟨rfl, x9⟩
            go_wp2_with fail
            exact ⟨⟨i + 1, by omega, by go_num, HER.out.trans x9 (by simp), by show _ = _; rw [HST.out]; rfl⟩, by simp [intOf]; omega⟩
        · have d1 : decide (i < nn) = false := decide_eq_false hi
          have hfin : ns.all p = true := by rw [hal.out, List.drop_eq_nil_of_le (by rw [HNL.out]; omega)]; rfl
          have HFIN := Lib.hid hfin
          clear hal hfin hX9
          go_wp2_with fail
          go_ret
          exact ⟨ret_bool (by rw [HLOO.out, HFIN.out]), x4.trans her (by simp)⟩


/-- Is an entry greater than is gone through? -/
def greatE (e : Ent) : Bool := longL 300 [e.org, e.url, e.meth, e.head]
theorem Slc.four_str (w : World) (s t u v : ByteArray) (T : TypeId) : Slc encS 1 (w.alloc (.cells #[.string s, .string t, .string u, .string v] T (0, 0))) (some ⟨w.heap.size, 0, none⟩) 4 [s, t, u, v] := by
  refine ⟨rfl, fun _ => ⟨w.heap.size, 0, rfl, by simp, fun i x hx j y hy => ?_⟩⟩
  have hb := Blk.new w #[.string s, .string t, .string u, .string v] T
  have hj : j = 0 := by
    match j, hy with
    | 0, _ => rfl
    | j + 1, hy => simp [encS] at hy
  subst hj
  have hy' : Value.string x = y := by simpa [encS] using hy
  match i, hx with
  | 0, hx => have : s = x := by simpa using hx
             subst this; subst hy'; exact hb.cell 0
  | 1, hx => have : t = x := by simpa using hx
             subst this; subst hy'; exact hb.cell 1
  | 2, hx => have : u = x := by simpa using hx
             subst this; subst hy'; exact hb.cell 2
  | 3, hx => have : v = x := by simpa using hx
             subst this; subst hy'; exact hb.cell 3

set_option maxHeartbeats 1600000 in
theorem great_any (e : Ent) (w : World) : Calls Try.prog 33 #[.agg (encE e).toArray] w fun r w' => r = .returned (.bool (greatE e)) ∧ Ext [] w w' := by
  have hL := long_any 300 (by omega) (by omega) _ 4 4 [e.org, e.url, e.meth, e.head] _ (Slc.four_str (w.alloc (.cells (encE e).toArray 35 (0, 0))) e.org e.url e.meth e.head 9) (by omega)
  rw [World.size_alloc] at hL
  have hg : greatE e = longL 300 [e.org, e.url, e.meth, e.head] := rfl
  rw [← hg] at hL
  have HL := Lib.hid hL
  have he : Ext [] w ((w.alloc (.cells (encE e).toArray 35 (0, 0))).alloc (.cells #[.string e.org, .string e.url, .string e.meth, .string e.head] 9 (0, 0))) := ((Ext.refl _ _).alloc _).alloc _
  have HE := Lib.hid he
  clear hL hg he
  unfold encE at HL HE ⊢
  go_enter Try.func33, Try.ntmps33
  go_wp2_with fail
  refine HL.out.mono ?_
  rintro r w1 ⟨rfl, rfl⟩
  go_wp2_with fail
  go_ret
  exact ⟨rfl, HE.out⟩
end Go.Proofs.Ytkbjpackijdnkaa
