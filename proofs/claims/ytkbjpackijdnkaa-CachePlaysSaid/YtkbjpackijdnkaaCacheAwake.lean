/- What the cache's chapter tells by example, by contract. -/
import Derived.Test.YtkbjpackijdnkaaCacheMeth
namespace Go.Proofs.Ytkbjpackijdnkaa
open Go.RowKit Go.Proofs.YtkbjpackijdnkaaW.PrintLast
set_option linter.unusedVariables false
set_option linter.unusedSimpArgs false

def awC : Cel := ⟨⟨#[104, 116, 116, 112, 58, 47, 47, 97]⟩, ⟨#[104, 116, 116, 112, 58, 47, 47, 98, 47]⟩, false⟩
def awE : Ent := ⟨awC.org, awC.url, false, ⟨#[80, 85, 84]⟩, emp, 5⟩
def awF : Ent := ⟨awC.org, awC.url, false, emp, emp, 9⟩

set_option maxHeartbeats 3200000 in
set_option maxRecDepth 100000 in
theorem awakeC_any (w : World) : Calls Try.prog 12 #[] w fun e w' => e = .returned (.bool true) ∧ Ext [] w w' := by
  have m0 : clampC 4 = 4 := by unfold clampC; omega
  have k1 : putM 4 awE 3 [] = (true, [awE]) := by kernel_rfl
  have k2 : methM [awE] awC ⟨#[80, 85, 84]⟩ 4 = true := by kernel_rfl
  have k3 : methM [awE] awC ⟨#[80, 85, 84]⟩ 5 = false := by kernel_rfl
  have k4 : putM 4 awF 3 [awE] = (false, [awE]) := by kernel_rfl
  have c0 := co_new 4
  rw [m0] at c0
  have c1 := fun b S w h => co_put 4 b S [] awE 3 (by simp) (by omega) w h
  have c2 := fun b S w h => co_method 4 b S [awE] awC ⟨#[80, 85, 84]⟩ 4 (by simp) w h
  have c3 := fun b S w h => co_method 4 b S [awE] awC ⟨#[80, 85, 84]⟩ 5 (by simp) w h
  have c4 := fun b S w h => co_entries 4 b S [awE] (by simp) w h
  have c5 := fun b S w h => co_put 4 b S [awE] awF 3 (by simp) (by omega) w h
  unfold PutP at c1 c5
  unfold EntriesP at c4
  rw [k1] at c1; rw [k2] at c2; rw [k3] at c3; rw [k4] at c5
  have c1 : ∀ b S w, CO 4 w b S [] → Calls Try.prog 16 #[.pointer (some ⟨b, 0, none⟩), .agg #[.string ⟨#[104, 116, 116, 112, 58, 47, 47, 97]⟩, .string ⟨#[104, 116, 116, 112, 58, 47, 47, 98, 47]⟩, .bool false, .string ⟨#[80, 85, 84]⟩, .string ⟨#[]⟩, .int .u64 5], .int .u64 3] w fun e w' => e = .returned (.bool true) ∧ Chg (fun w' S' => CO 4 w' b S' [awE]) S w w' := c1
  have c2 : ∀ b S w, CO 4 w b S [awE] → Calls Try.prog 20 #[.pointer (some ⟨b, 0, none⟩), .agg #[.string ⟨#[104, 116, 116, 112, 58, 47, 47, 97]⟩, .string ⟨#[104, 116, 116, 112, 58, 47, 47, 98, 47]⟩, .bool false], .string ⟨#[80, 85, 84]⟩, .int .u64 4] w fun e w' => e = .returned (.bool true) ∧ Ext [] w w' := c2
  have c3 : ∀ b S w, CO 4 w b S [awE] → Calls Try.prog 20 #[.pointer (some ⟨b, 0, none⟩), .agg #[.string ⟨#[104, 116, 116, 112, 58, 47, 47, 97]⟩, .string ⟨#[104, 116, 116, 112, 58, 47, 47, 98, 47]⟩, .bool false], .string ⟨#[80, 85, 84]⟩, .int .u64 5] w fun e w' => e = .returned (.bool false) ∧ Ext [] w w' := c3
  have c5 : ∀ b S w, CO 4 w b S [awE] → Calls Try.prog 16 #[.pointer (some ⟨b, 0, none⟩), .agg #[.string ⟨#[104, 116, 116, 112, 58, 47, 47, 97]⟩, .string ⟨#[104, 116, 116, 112, 58, 47, 47, 98, 47]⟩, .bool false, .string ⟨#[]⟩, .string ⟨#[]⟩, .int .u64 9], .int .u64 3] w fun e w' => e = .returned (.bool false) ∧ Chg (fun w' S' => CO 4 w' b S' [awE]) S w w' := c5
  have c4 : ∀ b S w, CO 4 w b S [awE] → Calls Try.prog 15 #[.pointer (some ⟨b, 0, none⟩)] w fun e w' => ∃ (a : Option Addr) (c : Nat), e = .returned (.slice a 1 c) ∧ Ext [] w w' := fun b S w h => (c4 b S w h).mono fun e w' ⟨a, c, h1, h2, h3, h4⟩ => ⟨a, c, h1, h3⟩
  have C0 := Lib.hid c0; have C1 := Lib.hid c1; have C2 := Lib.hid c2; have C3 := Lib.hid c3; have C4 := Lib.hid c4; have C5 := Lib.hid c5
  clear m0 k1 k2 k3 k4 c0 c1 c2 c3 c4 c5
  go_enter Try.func12, Try.ntmps12
  go_wp2_with fail
  refine (C0.out w).mono ?_
  rintro e w1 ⟨rfl, h1, e1⟩
  have o1 := Own.start e1 (S := [w.heap.size]) (by simp)
  obtain ⟨b, hb⟩ : ∃ b, w.heap.size = b := ⟨_, rfl⟩
  rw [hb] at h1 o1
  clear e1
  have hX : Blk (w1.alloc (.cells #[.string ⟨#[104, 116, 116, 112, 58, 47, 47, 97]⟩, .string ⟨#[104, 116, 116, 112, 58, 47, 47, 98, 47]⟩, .bool false] 33 (0, 0))) w1.heap.size #[.string ⟨#[104, 116, 116, 112, 58, 47, 47, 97]⟩, .string ⟨#[104, 116, 116, 112, 58, 47, 47, 98, 47]⟩, .bool false] 33 := Blk.new _ _ _
  have e2 : Ext [] w1 (w1.alloc (.cells #[.string ⟨#[104, 116, 116, 112, 58, 47, 47, 97]⟩, .string ⟨#[104, 116, 116, 112, 58, 47, 47, 98, 47]⟩, .bool false] 33 (0, 0))) := (Ext.refl _ _).alloc _
  have hlt := h1.lt
  have H1 := Lib.hid h1; have O1 := Lib.hid o1
  have HX := Lib.hid hX; have E2 := Lib.hid e2; have HLT := Lib.hid hlt
  clear hX hlt h1 o1 e2
  go_wp2_with fail
  clear hb
  refine (C1.out b _ _ (H1.out.keep0 E2.out)).mono ?_
  rintro e w2 ⟨rfl, S2, h2, x2, kk2⟩
  have o2 := ((O1.out.quiet E2.out)).step x2 kk2
  have hX2 := HX.out.keep x2 (fun hm => by have := HLT.out _ hm; omega)
  have q0 := hX2.cell 0; have q1 := hX2.cell 1; have q2 := hX2.cell 2
  simp only [List.getElem?_toArray, List.getElem?_cons_zero, List.getElem?_cons_succ] at q0 q1 q2
  have hltw := hX2.lt
  generalize w1.heap.size = B at HX hX2 q0 q1 q2 hltw ⊢
  have H2 := Lib.hid h2; have O2 := Lib.hid o2; have HX2 := Lib.hid hX2
  clear h2 o2 hX2 x2 kk2 HX E2 HLT O1 H1
  go_wp2_with fail
  refine (C2.out b _ _ H2.out).mono ?_
  rintro e w3 ⟨rfl, e3⟩
  have h3 := H2.out.keep0 e3; have o3 := O2.out.quiet e3; have hX3 := HX2.out.keep e3 (by simp)
  have q0 := hX3.cell 0; have q1 := hX3.cell 1; have q2 := hX3.cell 2
  simp only [List.getElem?_toArray, List.getElem?_cons_zero, List.getElem?_cons_succ] at q0 q1 q2
  have H3 := Lib.hid h3; have O3 := Lib.hid o3; have HX3 := Lib.hid hX3
  clear h3 o3 hX3 e3 H2 O2 HX2 hltw
  go_wp2_with fail
  refine (C3.out b _ _ H3.out).mono ?_
  rintro e w4 ⟨rfl, e4⟩
  have h4 := H3.out.keep0 e4; have o4 := O3.out.quiet e4; have hX4 := HX3.out.keep e4 (by simp)
  have H4 := Lib.hid h4; have O4 := Lib.hid o4; have HX4 := Lib.hid hX4
  clear h4 o4 hX4 e4 H3 O3 HX3
  go_wp2_with fail
  refine (C4.out b _ _ H4.out).mono ?_
  rintro e w5 ⟨ea, ec, rfl, e5⟩
  have h5 := H4.out.keep0 e5; have o5 := O4.out.quiet e5; have hX5 := HX4.out.keep e5 (by simp)
  have q0 := hX5.cell 0; have q1 := hX5.cell 1; have q2 := hX5.cell 2
  simp only [List.getElem?_toArray, List.getElem?_cons_zero, List.getElem?_cons_succ] at q0 q1 q2
  have H5 := Lib.hid h5; have O5 := Lib.hid o5
  clear h5 o5 hX5 e5 H4 O4 HX4
  go_wp2_with fail
  refine (C5.out b _ _ H5.out).mono ?_
  rintro e w6 ⟨rfl, S6, h6, e6, k6⟩
  have o6 := O5.out.step e6 k6
  go_wp2_with fail
  go_ret
  exact ⟨rfl, o6.ext⟩
end Go.Proofs.Ytkbjpackijdnkaa
