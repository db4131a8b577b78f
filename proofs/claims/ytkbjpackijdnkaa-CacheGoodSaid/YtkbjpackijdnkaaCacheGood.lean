/- CacheGood: its walk. -/
import Derived.Test.YtkbjpackijdnkaaCacheAwake
import Derived.Test.YtkbjpackijdnkaaCacheHead
import Derived.Test.YtkbjpackijdnkaaCacheAnew
namespace Go.Proofs.Ytkbjpackijdnkaa
open Go.RowKit Go.Proofs.YtkbjpackijdnkaaW.PrintLast
set_option linter.unusedVariables false
set_option linter.unusedSimpArgs false

theorem Slc.two_str (w : World) (s t : ByteArray) (T : TypeId) : Slc encS 1 (w.alloc (.cells #[.string s, .string t] T (0, 0))) (some ⟨w.heap.size, 0, none⟩) 2 [s, t] := by
  refine ⟨rfl, fun _ => ⟨w.heap.size, 0, rfl, by simp, fun i x hx j v hv => ?_⟩⟩
  have hb := Blk.new w #[.string s, .string t] T
  have hj : j = 0 := by
    match j, hv with
    | 0, _ => rfl
    | j + 1, hv => simp [encS] at hv
  subst hj
  have hv' : Value.string x = v := by simpa [encS] using hv
  match i, hx with
  | 0, hx => have : s = x := by simpa using hx
             subst this; subst hv'; exact hb.cell 0
  | 1, hx => have : t = x := by simpa using hx
             subst this; subst hv'; exact hb.cell 1

def gdE (c : Cel) (m : ByteArray) (t : Int) : Ent := ⟨c.org, c.url, c.creds, m, emp, t⟩
theorem gd_bad (c : Cel) (m : ByteArray) (hm : m ≠ emp) (t now : Int) : putM 5 (gdE c m t) now [] = (if t ≤ now then (false, []) else (true, [gdE c m t])) := by
  have hb : badE (gdE c m t) now = decide (t ≤ now) := by unfold badE gdE; simp [hm]
  unfold putM
  rw [hb]
  by_cases h : t ≤ now
  · simp [h]
  · simp [h]; rfl
theorem gd_same (c d : Cel) (m m' : ByteArray) (t : Int) : sameE (gdE c m t) (entM d m') = ((decide (c.org = d.org) && decide (c.url = d.url) && (c.creds == d.creds)) && decide (m = m')) := by
  unfold sameE gdE entM; simp
theorem gd_m1 (c : Cel) (m : ByteArray) (hm : m.toList.isEmpty = false) (t a : Int) : methM [gdE c m t] c m a = decide (a < t) := by
  unfold methM
  rw [hm]
  simp only [List.any_cons, List.any_nil, Bool.or_false, goodE, gd_same]
  have : (gdE c m t).til = t := rfl
  rw [this]
  cases c.creds <;> by_cases h : a < t <;> simp [h]
theorem gd_m2 (c d : Cel) (m : ByteArray) (t a : Int) (h : (decide (c.org = d.org) && decide (c.url = d.url) && (c.creds == d.creds)) = false) : methM [gdE c m t] d m a = false := by
  unfold methM
  simp only [List.any_cons, List.any_nil, Bool.or_false, goodE, gd_same]
  rw [h]; simp
theorem gd_m3 (c : Cel) (m m' : ByteArray) (h1 : m ≠ m') (h2 : m ≠ star) (t a : Int) : methM [gdE c m t] c m' a = false := by
  unfold methM
  simp only [List.any_cons, List.any_nil, Bool.or_false, goodE, gd_same]
  simp [h1, h2]
theorem gd_h (c : Cel) (m nm : ByteArray) (hm : m ≠ emp) (t a : Int) : headM [gdE c m t] c nm a = false := by
  have hs : ∀ h, sameE (gdE c m t) (entH c h) = false := fun h => by unfold sameE gdE entH; simp [hm]
  unfold headM
  simp only [List.any_cons, List.any_nil, Bool.or_false, goodE, hs]
  simp
theorem app_ne (m : ByteArray) : m ≠ m ++ (⟨#[120]⟩ : ByteArray) := by
  intro h
  have h1 := congrArg ByteArray.size h
  rw [ByteArray.size_append] at h1
  have h2 : (⟨#[120]⟩ : ByteArray).size = 1 := rfl
  omega

set_option maxHeartbeats 16000000 in
set_option maxRecDepth 100000 in
theorem cacheGood_walk (w : World) (c : Cel) (_hc : True) (d : Cel) (_hd : True) (m : ByteArray) (hm : m.size ≤ 140737488351232) (now : Int) (hnow : (Lit.int .u64 now).wf = true) (til : Int) (htil : (Lit.int .u64 til).wf = true) (at_ : Int) (hat : (Lit.int .u64 at_).wf = true) :
    Calls Try.prog 5 #[.agg (encC c).toArray, .agg (encC d).toArray, .string m, .int .u64 now, .int .u64 til, .int .u64 at_] w fun e w' => e = .returned (.bool true) ∧ Ext [] w w' := by
  clear _hc _hd hnow htil hat
  obtain ⟨co, cu, cr⟩ := c
  obtain ⟨dO, du, dr⟩ := d
  have hA1 : Ext [] w ((w.alloc (.cells #[.string co, .string cu, .bool cr] 33 (0, 0))).alloc (.cells #[.string dO, .string du, .bool dr] 33 (0, 0))) := ((Ext.refl _ _).alloc _).alloc _
  have hX : Blk ((w.alloc (.cells #[.string co, .string cu, .bool cr] 33 (0, 0))).alloc (.cells #[.string dO, .string du, .bool dr] 33 (0, 0))) w.heap.size #[.string co, .string cu, .bool cr] 33 := (Blk.new _ _ _).alloc _
  have hF : Blk ((w.alloc (.cells #[.string co, .string cu, .bool cr] 33 (0, 0))).alloc (.cells #[.string dO, .string du, .bool dr] 33 (0, 0))) (w.heap.size + 1) #[.string dO, .string du, .bool dr] 33 := by
    have := Blk.new (w.alloc (.cells #[.string co, .string cu, .bool cr] 33 (0, 0))) #[.string dO, .string du, .bool dr] 33
    rw [World.size_alloc] at this; exact this
  have hL1 := long_any 300 (by omega) (by omega) _ 3 3 [co, cu, m] _ (Slc.three_str ((w.alloc (.cells #[.string co, .string cu, .bool cr] 33 (0, 0))).alloc (.cells #[.string dO, .string du, .bool dr] 33 (0, 0))) co cu m 9) (by omega)
  have hL2 := long_any 300 (by omega) (by omega) _ 2 2 [dO, du] _ (Slc.two_str (((w.alloc (.cells #[.string co, .string cu, .bool cr] 33 (0, 0))).alloc (.cells #[.string dO, .string du, .bool dr] 33 (0, 0))).alloc (.cells #[.string co, .string cu, .string m] 9 (0, 0))) dO du 9) (by omega)
  simp only [World.size_alloc] at hL1 hL2
  have HX := Lib.hid hX; have HF := Lib.hid hF; have HA1 := Lib.hid hA1
  obtain ⟨lk1, hlk1⟩ : ∃ l, longL 300 [co, cu, m] = l := ⟨_, rfl⟩
  obtain ⟨lk2, hlk2⟩ : ∃ l, longL 300 [dO, du] = l := ⟨_, rfl⟩
  obtain ⟨em, hem⟩ : ∃ l, m.toList.isEmpty = l := ⟨_, rfl⟩
  rw [hlk1] at hL1; rw [hlk2] at hL2
  have HL1 := Lib.hid hL1; have HL2 := Lib.hid hL2
  clear hX hF hA1 hL1 hL2 hlk1 hlk2
  unfold encC
  cases lk1 with
  | true =>
    go_enter Try.func5, Try.ntmps5
    go_wp2_with fail
    refine HL1.out.mono ?_
    rintro e w1 ⟨rfl, rfl⟩
    go_wp2_with fail
    refine (awakeC_any _).mono ?_
    rintro e w1 ⟨rfl, e1⟩
    go_wp2_with fail
    go_ret
    exact ⟨rfl, (HA1.out.alloc _).trans e1 (by simp)⟩
  | false =>
    cases lk2 with
    | true =>
      go_enter Try.func5, Try.ntmps5
      go_wp2_with fail
      refine HL1.out.mono ?_
      rintro e w1 ⟨rfl, rfl⟩
      go_wp2_with fail
      refine HL2.out.mono ?_
      rintro e w1 ⟨rfl, rfl⟩
      go_wp2_with fail
      refine (awakeC_any _).mono ?_
      rintro e w1 ⟨rfl, e1⟩
      go_wp2_with fail
      go_ret
      exact ⟨rfl, ((HA1.out.alloc _).alloc _).trans e1 (by simp)⟩
    | false =>
      cases em with
      | true =>
        go_enter Try.func5, Try.ntmps5
        go_wp2_with fail
        refine HL1.out.mono ?_
        rintro e w1 ⟨rfl, rfl⟩
        go_wp2_with fail
        refine HL2.out.mono ?_
        rintro e w1 ⟨rfl, rfl⟩
        go_wp2_with fail
        refine (awakeC_any _).mono ?_
        rintro e w1 ⟨rfl, e1⟩
        go_wp2_with fail
        go_ret
        exact ⟨rfl, ((HA1.out.alloc _).alloc _).trans e1 (by simp)⟩
      | false =>
        have hne : m ≠ emp := fun h => by rw [h, show emp.toList = [] by rw [ByteArray.toList_eq]; rfl] at hem; simp at hem
        have hput := gd_bad ⟨co, cu, cr⟩ m hne til now
        have hm1 := fun W b S (hW : CO 5 W b S [gdE ⟨co, cu, cr⟩ m til]) => co_method 5 b S _ ⟨co, cu, cr⟩ m at_ (by simp) W hW
        rw [gd_m1 ⟨co, cu, cr⟩ m hem] at hm1
        have hm0 := fun W b S (hW : CO 5 W b S []) => co_method 5 b S _ ⟨co, cu, cr⟩ m at_ (by simp) W hW
        rw [show methM [] ⟨co, cu, cr⟩ m at_ = false by unfold methM; simp] at hm0
        have hh := fun W b S (hW : CO 5 W b S [gdE ⟨co, cu, cr⟩ m til]) => co_header 5 b S _ ⟨co, cu, cr⟩ m hm at_ (by simp) W hW
        rw [gd_h ⟨co, cu, cr⟩ m m hne] at hh
        have hpc := fun W b S (hW : CO 5 W b S []) => co_put 5 b S [] (gdE ⟨co, cu, cr⟩ m til) now (by simp) (by omega) W hW
        unfold PutP at hpc
        rw [hput] at hpc
        have hnew := fun W => co_new 5 W
        rw [show clampC 5 = 5 by unfold clampC; omega] at hnew
        have HNEW := Lib.hid hnew; have HPC := Lib.hid hpc; have HM1 := Lib.hid hm1; have HM0 := Lib.hid hm0; have HH := Lib.hid hh; have HNE := Lib.hid hne
        clear hne hput hm1 hm0 hh hpc hnew
        go_enter Try.func5, Try.ntmps5
        go_wp2_with fail
        refine HL1.out.mono ?_
        rintro e w1 ⟨rfl, rfl⟩
        go_wp2_with fail
        refine HL2.out.mono ?_
        rintro e w1 ⟨rfl, rfl⟩
        have hX := (HX.out.alloc (.cells #[.string co, .string cu, .string m] 9 (0, 0))).alloc (.cells #[.string dO, .string du] 9 (0, 0))
        have hF := (HF.out.alloc (.cells #[.string co, .string cu, .string m] 9 (0, 0))).alloc (.cells #[.string dO, .string du] 9 (0, 0))
        have e0 := (HA1.out.alloc (.cells #[.string co, .string cu, .string m] 9 (0, 0))).alloc (.cells #[.string dO, .string du] 9 (0, 0))
        generalize (((w.alloc (Obj.cells #[.string co, .string cu, .bool cr] 33 (0, 0))).alloc (Obj.cells #[.string dO, .string du, .bool dr] 33 (0, 0))).alloc (Obj.cells #[.string co, .string cu, .string m] 9 (0, 0))).alloc (Obj.cells #[.string dO, .string du] 9 (0, 0)) = w0 at hX hF e0 ⊢
        obtain ⟨F, hFe⟩ : ∃ F, w.heap.size + 1 = F := ⟨_, rfl⟩
        rw [hFe] at hF
        have HX0 := Lib.hid hX; have HF0 := Lib.hid hF; have HE0 := Lib.hid e0
        clear hX hF e0 HX HF HA1 HL1 HL2
        go_wp2_with fail
        refine (HNEW.out w0).mono ?_
        rintro e w1 ⟨rfl, h1, e1⟩
        have o1 := Own.start (HE0.out.trans e1 (by simp)) (S := [w0.heap.size]) (by simpa using HE0.out.size)
        have hX1 := HX0.out.keep e1 (by simp); have hF1 := HF0.out.keep e1 (by simp)
        have hXl := HX0.out.lt; have hFl := HF0.out.lt
        obtain ⟨b, hb⟩ : ∃ b, w0.heap.size = b := ⟨_, rfl⟩
        rw [hb] at h1 o1 hXl hFl
        obtain ⟨X, hXe⟩ : ∃ X, w.heap.size = X := ⟨_, rfl⟩
        rw [hXe] at hX1 hXl
        have q0 := hX1.cell 0; have q1 := hX1.cell 1; have q2 := hX1.cell 2
        simp only [List.getElem?_toArray, List.getElem?_cons_zero, List.getElem?_cons_succ] at q0 q1 q2
        have H1 := Lib.hid h1; have O1 := Lib.hid o1; have HX1 := Lib.hid hX1; have HF1 := Lib.hid hF1
        clear h1 o1 hX1 hF1 e1 HX0 HF0 HE0
        have HPC : Hid (∀ W b S, CO 5 W b S [] → Calls Try.prog 16 #[.pointer (some ⟨b, 0, none⟩), .agg #[.string co, .string cu, .bool cr, .string m, .string ⟨#[]⟩, .int .u64 til], .int .u64 now] W fun e w' => e = .returned (.bool (if til ≤ now then (false, ([] : List Ent)) else (true, [gdE ⟨co, cu, cr⟩ m til])).1) ∧ Chg (fun w' S' => CO 5 w' b S' (if til ≤ now then (false, ([] : List Ent)) else (true, [gdE ⟨co, cu, cr⟩ m til])).2) S W w') := HPC.out
        have hXS : ∀ x ∈ [b], x ≠ X := by intro x hx; simp at hx; omega
        have hFS : ∀ x ∈ [b], x ≠ F := by intro x hx; simp at hx; omega
        clear hXl hFl
        go_wp2_with fail
        clear hFe hXe hb
        by_cases hle : til ≤ now
        · have HPC := HPC.out
          simp only [if_pos hle] at HPC
          have d1 : decide (now < til) = false := decide_eq_false (by omega)
          refine (HPC w1 b [b] H1.out).mono ?_
          rintro e w2 ⟨rfl, S2, h2, x2, k2⟩
          have o2 := O1.out.step x2 k2
          have hX2 := HX1.out.keep x2 (fun hm => hXS X hm rfl)
          clear q0 q1 q2
          have q0 := hX2.cell 0; have q1 := hX2.cell 1; have q2 := hX2.cell 2
          simp only [List.getElem?_toArray, List.getElem?_cons_zero, List.getElem?_cons_succ] at q0 q1 q2
          have HC2 := Lib.hid h2; have HO2 := Lib.hid o2
          clear h2 o2 x2 k2 hX2 hle HPC
          have HM0 : Hid (∀ W b S, CO 5 W b S [] → Calls Try.prog 20 #[.pointer (some ⟨b, 0, none⟩), .agg #[.string co, .string cu, .bool cr], .string m, .int .u64 at_] W fun e w' => e = .returned (.bool false) ∧ Ext [] W w') := HM0.out
          go_wp2_with fail
          refine (HM0.out _ b S2 HC2.out).mono ?_
          rintro e w3 ⟨rfl, x3⟩
          have hen := co_entries 5 b S2 [] (by simp) w3 (HC2.out.keep0 x3)
          have HEN := Lib.hid hen
          clear hen
          go_wp2_with fail
          refine HEN.out.mono ?_
          rintro e w4 ⟨ea, ec, rfl, hr4, x4, hf4⟩
          clear hr4 hf4
          go_wp2_with fail
          refine (awakeC_any _).mono ?_
          rintro e w5 ⟨rfl, x5⟩
          go_wp2_with fail
          go_ret
          exact ⟨rfl, ((HO2.out.ext.trans x3 (by simp)).trans x4 (by simp)).trans x5 (by simp)⟩
        · have HPC := HPC.out
          simp only [if_neg hle] at HPC
          have d1 : decide (now < til) = true := decide_eq_true (by omega)
          refine (HPC w1 b [b] H1.out).mono ?_
          rintro e w2 ⟨rfl, S2, h2, x2, k2⟩
          have o2 := (O1.out.step x2 k2).ext
          have hX2 := HX1.out.keep x2 (fun hm => hXS X hm rfl); have hF2 := HF1.out.keep x2 (fun hm => hFS F hm rfl)
          clear q0 q1 q2 HX1 HF1
          have HX1 := Lib.hid hX2; have HF1 := Lib.hid hF2
          have q0 := hX2.cell 0; have q1 := hX2.cell 1; have q2 := hX2.cell 2; have r0 := hF2.cell 0; have r1 := hF2.cell 1; have r2 := hF2.cell 2
          simp only [List.getElem?_toArray, List.getElem?_cons_zero, List.getElem?_cons_succ] at q0 q1 q2 r0 r1 r2
          have HC2 := Lib.hid h2; have HO2 := Lib.hid o2
          clear h2 o2 x2 k2 hX2 hF2 hle HPC H1 O1 HM0 HNEW hXS hFS
          have hm2 := fun W b S (hW : CO 5 W b S [gdE ⟨co, cu, cr⟩ m til]) => co_method 5 b S _ ⟨dO, du, dr⟩ m at_ (by simp) W hW
          have hm3 := fun W b S (hW : CO 5 W b S [gdE ⟨co, cu, cr⟩ m til]) => co_method 5 b S _ ⟨co, cu, cr⟩ (m ++ ⟨#[120]⟩) at_ (by simp) W hW
          have HM2' := Lib.hid hm2; have HM3' := Lib.hid hm3
          clear hm2 hm3
          have HM1 : Hid (∀ W b S, CO 5 W b S [gdE ⟨co, cu, cr⟩ m til] → Calls Try.prog 20 #[.pointer (some ⟨b, 0, none⟩), .agg #[.string co, .string cu, .bool cr], .string m, .int .u64 at_] W fun e w' => e = .returned (.bool (decide (at_ < til))) ∧ Ext [] W w') := HM1.out
          have HH : Hid (∀ W b S, CO 5 W b S [gdE ⟨co, cu, cr⟩ m til] → Calls Try.prog 21 #[.pointer (some ⟨b, 0, none⟩), .agg #[.string co, .string cu, .bool cr], .string m, .int .u64 at_] W fun e w' => e = .returned (.bool false) ∧ Ext [] W w') := HH.out
          obtain ⟨es, hes⟩ : ∃ es, (m.toList == [42]) = es := ⟨_, rfl⟩
          have HM2g : Hid ((decide (co = dO) && decide (cu = du) && (cr == dr)) = false → ∀ W b S, CO 5 W b S [gdE ⟨co, cu, cr⟩ m til] → Calls Try.prog 20 #[.pointer (some ⟨b, 0, none⟩), .agg #[.string dO, .string du, .bool dr], .string m, .int .u64 at_] W fun e w' => e = .returned (.bool false) ∧ Ext [] W w') := fun h => by
            have := HM2'.out
            rw [gd_m2 ⟨co, cu, cr⟩ ⟨dO, du, dr⟩ m til at_ h] at this
            exact this
          have HM3g : Hid (es = false → ∀ W b S, CO 5 W b S [gdE ⟨co, cu, cr⟩ m til] → Calls Try.prog 20 #[.pointer (some ⟨b, 0, none⟩), .agg #[.string co, .string cu, .bool cr], .string (m ++ ⟨#[120]⟩), .int .u64 at_] W fun e w' => e = .returned (.bool false) ∧ Ext [] W w') := fun h => by
            have := HM3'.out
            have hst : m ≠ star := fun e => by rw [e, show star.toList = [42] by rw [ByteArray.toList_eq]; rfl, h] at hes; simp at hes
            rw [gd_m3 ⟨co, cu, cr⟩ m _ (app_ne m) hst til at_] at this
            exact this
          clear HM2' HM3'
          by_cases h1 : dO = co
          rotate_left
          · have h1' : ¬ dO.toList = co.toList := fun h => h1 (bytes_inj.1 h)
            have hb2 : (decide (co = dO) && decide (cu = du) && (cr == dr)) = false := by simp [Ne.symm h1]
            have HB2 := Lib.hid hb2
            clear h1 hb2
            cases es with
            | true =>
              have HM2 := Lib.hid (HM2g.out HB2.out)
              clear HM2g HM3g
              go_wp2_with fail
              refine (HM1.out _ b S2 (HC2.out.keep0 (Ext.refl _ _))).mono ?_
              rintro e v1 ⟨rfl, y1⟩
              have x1 := y1
              clear q0 q1 q2 r0 r1 r2 y1
              have hxx := HX1.out.keep x1 (by simp); have hff := HF1.out.keep x1 (by simp)
              have q0 := hxx.cell 0; have q1 := hxx.cell 1; have q2 := hxx.cell 2; have r0 := hff.cell 0; have r1 := hff.cell 1; have r2 := hff.cell 2
              simp only [List.getElem?_toArray, List.getElem?_cons_zero, List.getElem?_cons_succ] at q0 q1 q2 r0 r1 r2
              clear hxx hff
              go_wp2_with fail
              refine (HM2.out _ b S2 (HC2.out.keep0 x1)).mono ?_
              rintro e v2 ⟨rfl, y2⟩
              have x2 := x1.trans y2 (by simp)
              clear q0 q1 q2 r0 r1 r2 y2
              have hxx := HX1.out.keep x2 (by simp); have hff := HF1.out.keep x2 (by simp)
              have q0 := hxx.cell 0; have q1 := hxx.cell 1; have q2 := hxx.cell 2; have r0 := hff.cell 0; have r1 := hff.cell 1; have r2 := hff.cell 2
              simp only [List.getElem?_toArray, List.getElem?_cons_zero, List.getElem?_cons_succ] at q0 q1 q2 r0 r1 r2
              clear hxx hff
              go_wp2_with fail
              refine (HH.out _ b S2 (HC2.out.keep0 x2)).mono ?_
              rintro e v3 ⟨rfl, y3⟩
              have x3 := x2.trans y3 (by simp)
              clear q0 q1 q2 r0 r1 r2 y3
              have hxx := HX1.out.keep x3 (by simp); have hff := HF1.out.keep x3 (by simp)
              have q0 := hxx.cell 0; have q1 := hxx.cell 1; have q2 := hxx.cell 2; have r0 := hff.cell 0; have r1 := hff.cell 1; have r2 := hff.cell 2
              simp only [List.getElem?_toArray, List.getElem?_cons_zero, List.getElem?_cons_succ] at q0 q1 q2 r0 r1 r2
              clear hxx hff
              go_wp2_with fail
              refine (awakeC_any _).mono ?_
              rintro e v9 ⟨rfl, y9⟩
              go_wp2_with fail
              go_ret
              exact ⟨rfl, (HO2.out.trans x3 (by simp)).trans y9 (by simp)⟩
            | false =>
              have HM2 := Lib.hid (HM2g.out HB2.out)
              have HM3 := Lib.hid (HM3g.out rfl)
              clear HM2g HM3g
              go_wp2_with fail
              refine (HM1.out _ b S2 (HC2.out.keep0 (Ext.refl _ _))).mono ?_
              rintro e v1 ⟨rfl, y1⟩
              have x1 := y1
              clear q0 q1 q2 r0 r1 r2 y1
              have hxx := HX1.out.keep x1 (by simp); have hff := HF1.out.keep x1 (by simp)
              have q0 := hxx.cell 0; have q1 := hxx.cell 1; have q2 := hxx.cell 2; have r0 := hff.cell 0; have r1 := hff.cell 1; have r2 := hff.cell 2
              simp only [List.getElem?_toArray, List.getElem?_cons_zero, List.getElem?_cons_succ] at q0 q1 q2 r0 r1 r2
              clear hxx hff
              go_wp2_with fail
              refine (HM2.out _ b S2 (HC2.out.keep0 x1)).mono ?_
              rintro e v2 ⟨rfl, y2⟩
              have x2 := x1.trans y2 (by simp)
              clear q0 q1 q2 r0 r1 r2 y2
              have hxx := HX1.out.keep x2 (by simp); have hff := HF1.out.keep x2 (by simp)
              have q0 := hxx.cell 0; have q1 := hxx.cell 1; have q2 := hxx.cell 2; have r0 := hff.cell 0; have r1 := hff.cell 1; have r2 := hff.cell 2
              simp only [List.getElem?_toArray, List.getElem?_cons_zero, List.getElem?_cons_succ] at q0 q1 q2 r0 r1 r2
              clear hxx hff
              go_wp2_with fail
              refine (HM3.out _ b S2 (HC2.out.keep0 x2)).mono ?_
              rintro e v3 ⟨rfl, y3⟩
              have x3 := x2.trans y3 (by simp)
              clear q0 q1 q2 r0 r1 r2 y3
              have hxx := HX1.out.keep x3 (by simp); have hff := HF1.out.keep x3 (by simp)
              have q0 := hxx.cell 0; have q1 := hxx.cell 1; have q2 := hxx.cell 2; have r0 := hff.cell 0; have r1 := hff.cell 1; have r2 := hff.cell 2
              simp only [List.getElem?_toArray, List.getElem?_cons_zero, List.getElem?_cons_succ] at q0 q1 q2 r0 r1 r2
              clear hxx hff
              go_wp2_with fail
              refine (HH.out _ b S2 (HC2.out.keep0 x3)).mono ?_
              rintro e v4 ⟨rfl, y4⟩
              have x4 := x3.trans y4 (by simp)
              clear q0 q1 q2 r0 r1 r2 y4
              have hxx := HX1.out.keep x4 (by simp); have hff := HF1.out.keep x4 (by simp)
              have q0 := hxx.cell 0; have q1 := hxx.cell 1; have q2 := hxx.cell 2; have r0 := hff.cell 0; have r1 := hff.cell 1; have r2 := hff.cell 2
              simp only [List.getElem?_toArray, List.getElem?_cons_zero, List.getElem?_cons_succ] at q0 q1 q2 r0 r1 r2
              clear hxx hff
              go_wp2_with fail
              refine (awakeC_any _).mono ?_
              rintro e v9 ⟨rfl, y9⟩
              go_wp2_with fail
              go_ret
              exact ⟨rfl, (HO2.out.trans x4 (by simp)).trans y9 (by simp)⟩
          · subst h1
            by_cases h2 : du = cu
            rotate_left
            · have h2' : ¬ du.toList = cu.toList := fun h => h2 (bytes_inj.1 h)
              have hb2 : (decide (dO = dO) && decide (cu = du) && (cr == dr)) = false := by simp [Ne.symm h2]
              have HB2 := Lib.hid hb2
              clear h2 hb2
              cases es with
              | true =>
                have HM2 := Lib.hid (HM2g.out HB2.out)
                clear HM2g HM3g
                go_wp2_with fail
                refine (HM1.out _ b S2 (HC2.out.keep0 (Ext.refl _ _))).mono ?_
                rintro e v1 ⟨rfl, y1⟩
                have x1 := y1
                clear q0 q1 q2 r0 r1 r2 y1
                have hxx := HX1.out.keep x1 (by simp); have hff := HF1.out.keep x1 (by simp)
                have q0 := hxx.cell 0; have q1 := hxx.cell 1; have q2 := hxx.cell 2; have r0 := hff.cell 0; have r1 := hff.cell 1; have r2 := hff.cell 2
                simp only [List.getElem?_toArray, List.getElem?_cons_zero, List.getElem?_cons_succ] at q0 q1 q2 r0 r1 r2
                clear hxx hff
                go_wp2_with fail
                refine (HM2.out _ b S2 (HC2.out.keep0 x1)).mono ?_
                rintro e v2 ⟨rfl, y2⟩
                have x2 := x1.trans y2 (by simp)
                clear q0 q1 q2 r0 r1 r2 y2
                have hxx := HX1.out.keep x2 (by simp); have hff := HF1.out.keep x2 (by simp)
                have q0 := hxx.cell 0; have q1 := hxx.cell 1; have q2 := hxx.cell 2; have r0 := hff.cell 0; have r1 := hff.cell 1; have r2 := hff.cell 2
                simp only [List.getElem?_toArray, List.getElem?_cons_zero, List.getElem?_cons_succ] at q0 q1 q2 r0 r1 r2
                clear hxx hff
                go_wp2_with fail
                refine (HH.out _ b S2 (HC2.out.keep0 x2)).mono ?_
                rintro e v3 ⟨rfl, y3⟩
                have x3 := x2.trans y3 (by simp)
                clear q0 q1 q2 r0 r1 r2 y3
                have hxx := HX1.out.keep x3 (by simp); have hff := HF1.out.keep x3 (by simp)
                have q0 := hxx.cell 0; have q1 := hxx.cell 1; have q2 := hxx.cell 2; have r0 := hff.cell 0; have r1 := hff.cell 1; have r2 := hff.cell 2
                simp only [List.getElem?_toArray, List.getElem?_cons_zero, List.getElem?_cons_succ] at q0 q1 q2 r0 r1 r2
                clear hxx hff
                go_wp2_with fail
                refine (awakeC_any _).mono ?_
                rintro e v9 ⟨rfl, y9⟩
                go_wp2_with fail
                go_ret
                exact ⟨rfl, (HO2.out.trans x3 (by simp)).trans y9 (by simp)⟩
              | false =>
                have HM2 := Lib.hid (HM2g.out HB2.out)
                have HM3 := Lib.hid (HM3g.out rfl)
                clear HM2g HM3g
                go_wp2_with fail
                refine (HM1.out _ b S2 (HC2.out.keep0 (Ext.refl _ _))).mono ?_
                rintro e v1 ⟨rfl, y1⟩
                have x1 := y1
                clear q0 q1 q2 r0 r1 r2 y1
                have hxx := HX1.out.keep x1 (by simp); have hff := HF1.out.keep x1 (by simp)
                have q0 := hxx.cell 0; have q1 := hxx.cell 1; have q2 := hxx.cell 2; have r0 := hff.cell 0; have r1 := hff.cell 1; have r2 := hff.cell 2
                simp only [List.getElem?_toArray, List.getElem?_cons_zero, List.getElem?_cons_succ] at q0 q1 q2 r0 r1 r2
                clear hxx hff
                go_wp2_with fail
                refine (HM2.out _ b S2 (HC2.out.keep0 x1)).mono ?_
                rintro e v2 ⟨rfl, y2⟩
                have x2 := x1.trans y2 (by simp)
                clear q0 q1 q2 r0 r1 r2 y2
                have hxx := HX1.out.keep x2 (by simp); have hff := HF1.out.keep x2 (by simp)
                have q0 := hxx.cell 0; have q1 := hxx.cell 1; have q2 := hxx.cell 2; have r0 := hff.cell 0; have r1 := hff.cell 1; have r2 := hff.cell 2
                simp only [List.getElem?_toArray, List.getElem?_cons_zero, List.getElem?_cons_succ] at q0 q1 q2 r0 r1 r2
                clear hxx hff
                go_wp2_with fail
                refine (HM3.out _ b S2 (HC2.out.keep0 x2)).mono ?_
                rintro e v3 ⟨rfl, y3⟩
                have x3 := x2.trans y3 (by simp)
                clear q0 q1 q2 r0 r1 r2 y3
                have hxx := HX1.out.keep x3 (by simp); have hff := HF1.out.keep x3 (by simp)
                have q0 := hxx.cell 0; have q1 := hxx.cell 1; have q2 := hxx.cell 2; have r0 := hff.cell 0; have r1 := hff.cell 1; have r2 := hff.cell 2
                simp only [List.getElem?_toArray, List.getElem?_cons_zero, List.getElem?_cons_succ] at q0 q1 q2 r0 r1 r2
                clear hxx hff
                go_wp2_with fail
                refine (HH.out _ b S2 (HC2.out.keep0 x3)).mono ?_
                rintro e v4 ⟨rfl, y4⟩
                have x4 := x3.trans y4 (by simp)
                clear q0 q1 q2 r0 r1 r2 y4
                have hxx := HX1.out.keep x4 (by simp); have hff := HF1.out.keep x4 (by simp)
                have q0 := hxx.cell 0; have q1 := hxx.cell 1; have q2 := hxx.cell 2; have r0 := hff.cell 0; have r1 := hff.cell 1; have r2 := hff.cell 2
                simp only [List.getElem?_toArray, List.getElem?_cons_zero, List.getElem?_cons_succ] at q0 q1 q2 r0 r1 r2
                clear hxx hff
                go_wp2_with fail
                refine (awakeC_any _).mono ?_
                rintro e v9 ⟨rfl, y9⟩
                go_wp2_with fail
                go_ret
                exact ⟨rfl, (HO2.out.trans x4 (by simp)).trans y9 (by simp)⟩
            · subst h2
              cases cr <;> cases dr
              · skip
                cases es with
                | true =>
                  clear HM2g HM3g
                  go_wp2_with fail
                  refine (HM1.out _ b S2 (HC2.out.keep0 (Ext.refl _ _))).mono ?_
                  rintro e v1 ⟨rfl, y1⟩
                  have x1 := y1
                  clear q0 q1 q2 r0 r1 r2 y1
                  have hxx := HX1.out.keep x1 (by simp); have hff := HF1.out.keep x1 (by simp)
                  have q0 := hxx.cell 0; have q1 := hxx.cell 1; have q2 := hxx.cell 2; have r0 := hff.cell 0; have r1 := hff.cell 1; have r2 := hff.cell 2
                  simp only [List.getElem?_toArray, List.getElem?_cons_zero, List.getElem?_cons_succ] at q0 q1 q2 r0 r1 r2
                  clear hxx hff
                  go_wp2_with fail
                  refine (HH.out _ b S2 (HC2.out.keep0 x1)).mono ?_
                  rintro e v2 ⟨rfl, y2⟩
                  have x2 := x1.trans y2 (by simp)
                  clear q0 q1 q2 r0 r1 r2 y2
                  have hxx := HX1.out.keep x2 (by simp); have hff := HF1.out.keep x2 (by simp)
                  have q0 := hxx.cell 0; have q1 := hxx.cell 1; have q2 := hxx.cell 2; have r0 := hff.cell 0; have r1 := hff.cell 1; have r2 := hff.cell 2
                  simp only [List.getElem?_toArray, List.getElem?_cons_zero, List.getElem?_cons_succ] at q0 q1 q2 r0 r1 r2
                  clear hxx hff
                  go_wp2_with fail
                  refine (awakeC_any _).mono ?_
                  rintro e v9 ⟨rfl, y9⟩
                  go_wp2_with fail
                  go_ret
                  exact ⟨rfl, (HO2.out.trans x2 (by simp)).trans y9 (by simp)⟩
                | false =>
                  have HM3 := Lib.hid (HM3g.out rfl)
                  clear HM2g HM3g
                  go_wp2_with fail
                  refine (HM1.out _ b S2 (HC2.out.keep0 (Ext.refl _ _))).mono ?_
                  rintro e v1 ⟨rfl, y1⟩
                  have x1 := y1
                  clear q0 q1 q2 r0 r1 r2 y1
                  have hxx := HX1.out.keep x1 (by simp); have hff := HF1.out.keep x1 (by simp)
                  have q0 := hxx.cell 0; have q1 := hxx.cell 1; have q2 := hxx.cell 2; have r0 := hff.cell 0; have r1 := hff.cell 1; have r2 := hff.cell 2
                  simp only [List.getElem?_toArray, List.getElem?_cons_zero, List.getElem?_cons_succ] at q0 q1 q2 r0 r1 r2
                  clear hxx hff
                  go_wp2_with fail
                  refine (HM3.out _ b S2 (HC2.out.keep0 x1)).mono ?_
                  rintro e v2 ⟨rfl, y2⟩
                  have x2 := x1.trans y2 (by simp)
                  clear q0 q1 q2 r0 r1 r2 y2
                  have hxx := HX1.out.keep x2 (by simp); have hff := HF1.out.keep x2 (by simp)
                  have q0 := hxx.cell 0; have q1 := hxx.cell 1; have q2 := hxx.cell 2; have r0 := hff.cell 0; have r1 := hff.cell 1; have r2 := hff.cell 2
                  simp only [List.getElem?_toArray, List.getElem?_cons_zero, List.getElem?_cons_succ] at q0 q1 q2 r0 r1 r2
                  clear hxx hff
                  go_wp2_with fail
                  refine (HH.out _ b S2 (HC2.out.keep0 x2)).mono ?_
                  rintro e v3 ⟨rfl, y3⟩
                  have x3 := x2.trans y3 (by simp)
                  clear q0 q1 q2 r0 r1 r2 y3
                  have hxx := HX1.out.keep x3 (by simp); have hff := HF1.out.keep x3 (by simp)
                  have q0 := hxx.cell 0; have q1 := hxx.cell 1; have q2 := hxx.cell 2; have r0 := hff.cell 0; have r1 := hff.cell 1; have r2 := hff.cell 2
                  simp only [List.getElem?_toArray, List.getElem?_cons_zero, List.getElem?_cons_succ] at q0 q1 q2 r0 r1 r2
                  clear hxx hff
                  go_wp2_with fail
                  refine (awakeC_any _).mono ?_
                  rintro e v9 ⟨rfl, y9⟩
                  go_wp2_with fail
                  go_ret
                  exact ⟨rfl, (HO2.out.trans x3 (by simp)).trans y9 (by simp)⟩
              · have hb2 : (decide (dO = dO) && decide (du = du) && (false == true)) = false := by simp
                have HB2 := Lib.hid hb2
                clear hb2
                cases es with
                | true =>
                  have HM2 := Lib.hid (HM2g.out HB2.out)
                  clear HM2g HM3g
                  go_wp2_with fail
                  refine (HM1.out _ b S2 (HC2.out.keep0 (Ext.refl _ _))).mono ?_
                  rintro e v1 ⟨rfl, y1⟩
                  have x1 := y1
                  clear q0 q1 q2 r0 r1 r2 y1
                  have hxx := HX1.out.keep x1 (by simp); have hff := HF1.out.keep x1 (by simp)
                  have q0 := hxx.cell 0; have q1 := hxx.cell 1; have q2 := hxx.cell 2; have r0 := hff.cell 0; have r1 := hff.cell 1; have r2 := hff.cell 2
                  simp only [List.getElem?_toArray, List.getElem?_cons_zero, List.getElem?_cons_succ] at q0 q1 q2 r0 r1 r2
                  clear hxx hff
                  go_wp2_with fail
                  refine (HM2.out _ b S2 (HC2.out.keep0 x1)).mono ?_
                  rintro e v2 ⟨rfl, y2⟩
                  have x2 := x1.trans y2 (by simp)
                  clear q0 q1 q2 r0 r1 r2 y2
                  have hxx := HX1.out.keep x2 (by simp); have hff := HF1.out.keep x2 (by simp)
                  have q0 := hxx.cell 0; have q1 := hxx.cell 1; have q2 := hxx.cell 2; have r0 := hff.cell 0; have r1 := hff.cell 1; have r2 := hff.cell 2
                  simp only [List.getElem?_toArray, List.getElem?_cons_zero, List.getElem?_cons_succ] at q0 q1 q2 r0 r1 r2
                  clear hxx hff
                  go_wp2_with fail
                  refine (HH.out _ b S2 (HC2.out.keep0 x2)).mono ?_
                  rintro e v3 ⟨rfl, y3⟩
                  have x3 := x2.trans y3 (by simp)
                  clear q0 q1 q2 r0 r1 r2 y3
                  have hxx := HX1.out.keep x3 (by simp); have hff := HF1.out.keep x3 (by simp)
                  have q0 := hxx.cell 0; have q1 := hxx.cell 1; have q2 := hxx.cell 2; have r0 := hff.cell 0; have r1 := hff.cell 1; have r2 := hff.cell 2
                  simp only [List.getElem?_toArray, List.getElem?_cons_zero, List.getElem?_cons_succ] at q0 q1 q2 r0 r1 r2
                  clear hxx hff
                  go_wp2_with fail
                  refine (awakeC_any _).mono ?_
                  rintro e v9 ⟨rfl, y9⟩
                  go_wp2_with fail
                  go_ret
                  exact ⟨rfl, (HO2.out.trans x3 (by simp)).trans y9 (by simp)⟩
                | false =>
                  have HM2 := Lib.hid (HM2g.out HB2.out)
                  have HM3 := Lib.hid (HM3g.out rfl)
                  clear HM2g HM3g
                  go_wp2_with fail
                  refine (HM1.out _ b S2 (HC2.out.keep0 (Ext.refl _ _))).mono ?_
                  rintro e v1 ⟨rfl, y1⟩
                  have x1 := y1
                  clear q0 q1 q2 r0 r1 r2 y1
                  have hxx := HX1.out.keep x1 (by simp); have hff := HF1.out.keep x1 (by simp)
                  have q0 := hxx.cell 0; have q1 := hxx.cell 1; have q2 := hxx.cell 2; have r0 := hff.cell 0; have r1 := hff.cell 1; have r2 := hff.cell 2
                  simp only [List.getElem?_toArray, List.getElem?_cons_zero, List.getElem?_cons_succ] at q0 q1 q2 r0 r1 r2
                  clear hxx hff
                  go_wp2_with fail
                  refine (HM2.out _ b S2 (HC2.out.keep0 x1)).mono ?_
                  rintro e v2 ⟨rfl, y2⟩
                  have x2 := x1.trans y2 (by simp)
                  clear q0 q1 q2 r0 r1 r2 y2
                  have hxx := HX1.out.keep x2 (by simp); have hff := HF1.out.keep x2 (by simp)
                  have q0 := hxx.cell 0; have q1 := hxx.cell 1; have q2 := hxx.cell 2; have r0 := hff.cell 0; have r1 := hff.cell 1; have r2 := hff.cell 2
                  simp only [List.getElem?_toArray, List.getElem?_cons_zero, List.getElem?_cons_succ] at q0 q1 q2 r0 r1 r2
                  clear hxx hff
                  go_wp2_with fail
                  refine (HM3.out _ b S2 (HC2.out.keep0 x2)).mono ?_
                  rintro e v3 ⟨rfl, y3⟩
                  have x3 := x2.trans y3 (by simp)
                  clear q0 q1 q2 r0 r1 r2 y3
                  have hxx := HX1.out.keep x3 (by simp); have hff := HF1.out.keep x3 (by simp)
                  have q0 := hxx.cell 0; have q1 := hxx.cell 1; have q2 := hxx.cell 2; have r0 := hff.cell 0; have r1 := hff.cell 1; have r2 := hff.cell 2
                  simp only [List.getElem?_toArray, List.getElem?_cons_zero, List.getElem?_cons_succ] at q0 q1 q2 r0 r1 r2
                  clear hxx hff
                  go_wp2_with fail
                  refine (HH.out _ b S2 (HC2.out.keep0 x3)).mono ?_
                  rintro e v4 ⟨rfl, y4⟩
                  have x4 := x3.trans y4 (by simp)
                  clear q0 q1 q2 r0 r1 r2 y4
                  have hxx := HX1.out.keep x4 (by simp); have hff := HF1.out.keep x4 (by simp)
                  have q0 := hxx.cell 0; have q1 := hxx.cell 1; have q2 := hxx.cell 2; have r0 := hff.cell 0; have r1 := hff.cell 1; have r2 := hff.cell 2
                  simp only [List.getElem?_toArray, List.getElem?_cons_zero, List.getElem?_cons_succ] at q0 q1 q2 r0 r1 r2
                  clear hxx hff
                  go_wp2_with fail
                  refine (awakeC_any _).mono ?_
                  rintro e v9 ⟨rfl, y9⟩
                  go_wp2_with fail
                  go_ret
                  exact ⟨rfl, (HO2.out.trans x4 (by simp)).trans y9 (by simp)⟩
              · have hb2 : (decide (dO = dO) && decide (du = du) && (true == false)) = false := by simp
                have HB2 := Lib.hid hb2
                clear hb2
                cases es with
                | true =>
                  have HM2 := Lib.hid (HM2g.out HB2.out)
                  clear HM2g HM3g
                  go_wp2_with fail
                  refine (HM1.out _ b S2 (HC2.out.keep0 (Ext.refl _ _))).mono ?_
                  rintro e v1 ⟨rfl, y1⟩
                  have x1 := y1
                  clear q0 q1 q2 r0 r1 r2 y1
                  have hxx := HX1.out.keep x1 (by simp); have hff := HF1.out.keep x1 (by simp)
                  have q0 := hxx.cell 0; have q1 := hxx.cell 1; have q2 := hxx.cell 2; have r0 := hff.cell 0; have r1 := hff.cell 1; have r2 := hff.cell 2
                  simp only [List.getElem?_toArray, List.getElem?_cons_zero, List.getElem?_cons_succ] at q0 q1 q2 r0 r1 r2
                  clear hxx hff
                  go_wp2_with fail
                  refine (HM2.out _ b S2 (HC2.out.keep0 x1)).mono ?_
                  rintro e v2 ⟨rfl, y2⟩
                  have x2 := x1.trans y2 (by simp)
                  clear q0 q1 q2 r0 r1 r2 y2
                  have hxx := HX1.out.keep x2 (by simp); have hff := HF1.out.keep x2 (by simp)
                  have q0 := hxx.cell 0; have q1 := hxx.cell 1; have q2 := hxx.cell 2; have r0 := hff.cell 0; have r1 := hff.cell 1; have r2 := hff.cell 2
                  simp only [List.getElem?_toArray, List.getElem?_cons_zero, List.getElem?_cons_succ] at q0 q1 q2 r0 r1 r2
                  clear hxx hff
                  go_wp2_with fail
                  refine (HH.out _ b S2 (HC2.out.keep0 x2)).mono ?_
                  rintro e v3 ⟨rfl, y3⟩
                  have x3 := x2.trans y3 (by simp)
                  clear q0 q1 q2 r0 r1 r2 y3
                  have hxx := HX1.out.keep x3 (by simp); have hff := HF1.out.keep x3 (by simp)
                  have q0 := hxx.cell 0; have q1 := hxx.cell 1; have q2 := hxx.cell 2; have r0 := hff.cell 0; have r1 := hff.cell 1; have r2 := hff.cell 2
                  simp only [List.getElem?_toArray, List.getElem?_cons_zero, List.getElem?_cons_succ] at q0 q1 q2 r0 r1 r2
                  clear hxx hff
                  go_wp2_with fail
                  refine (awakeC_any _).mono ?_
                  rintro e v9 ⟨rfl, y9⟩
                  go_wp2_with fail
                  go_ret
                  exact ⟨rfl, (HO2.out.trans x3 (by simp)).trans y9 (by simp)⟩
                | false =>
                  have HM2 := Lib.hid (HM2g.out HB2.out)
                  have HM3 := Lib.hid (HM3g.out rfl)
                  clear HM2g HM3g
                  go_wp2_with fail
                  refine (HM1.out _ b S2 (HC2.out.keep0 (Ext.refl _ _))).mono ?_
                  rintro e v1 ⟨rfl, y1⟩
                  have x1 := y1
                  clear q0 q1 q2 r0 r1 r2 y1
                  have hxx := HX1.out.keep x1 (by simp); have hff := HF1.out.keep x1 (by simp)
                  have q0 := hxx.cell 0; have q1 := hxx.cell 1; have q2 := hxx.cell 2; have r0 := hff.cell 0; have r1 := hff.cell 1; have r2 := hff.cell 2
                  simp only [List.getElem?_toArray, List.getElem?_cons_zero, List.getElem?_cons_succ] at q0 q1 q2 r0 r1 r2
                  clear hxx hff
                  go_wp2_with fail
                  refine (HM2.out _ b S2 (HC2.out.keep0 x1)).mono ?_
                  rintro e v2 ⟨rfl, y2⟩
                  have x2 := x1.trans y2 (by simp)
                  clear q0 q1 q2 r0 r1 r2 y2
                  have hxx := HX1.out.keep x2 (by simp); have hff := HF1.out.keep x2 (by simp)
                  have q0 := hxx.cell 0; have q1 := hxx.cell 1; have q2 := hxx.cell 2; have r0 := hff.cell 0; have r1 := hff.cell 1; have r2 := hff.cell 2
                  simp only [List.getElem?_toArray, List.getElem?_cons_zero, List.getElem?_cons_succ] at q0 q1 q2 r0 r1 r2
                  clear hxx hff
                  go_wp2_with fail
                  refine (HM3.out _ b S2 (HC2.out.keep0 x2)).mono ?_
                  rintro e v3 ⟨rfl, y3⟩
                  have x3 := x2.trans y3 (by simp)
                  clear q0 q1 q2 r0 r1 r2 y3
                  have hxx := HX1.out.keep x3 (by simp); have hff := HF1.out.keep x3 (by simp)
                  have q0 := hxx.cell 0; have q1 := hxx.cell 1; have q2 := hxx.cell 2; have r0 := hff.cell 0; have r1 := hff.cell 1; have r2 := hff.cell 2
                  simp only [List.getElem?_toArray, List.getElem?_cons_zero, List.getElem?_cons_succ] at q0 q1 q2 r0 r1 r2
                  clear hxx hff
                  go_wp2_with fail
                  refine (HH.out _ b S2 (HC2.out.keep0 x3)).mono ?_
                  rintro e v4 ⟨rfl, y4⟩
                  have x4 := x3.trans y4 (by simp)
                  clear q0 q1 q2 r0 r1 r2 y4
                  have hxx := HX1.out.keep x4 (by simp); have hff := HF1.out.keep x4 (by simp)
                  have q0 := hxx.cell 0; have q1 := hxx.cell 1; have q2 := hxx.cell 2; have r0 := hff.cell 0; have r1 := hff.cell 1; have r2 := hff.cell 2
                  simp only [List.getElem?_toArray, List.getElem?_cons_zero, List.getElem?_cons_succ] at q0 q1 q2 r0 r1 r2
                  clear hxx hff
                  go_wp2_with fail
                  refine (awakeC_any _).mono ?_
                  rintro e v9 ⟨rfl, y9⟩
                  go_wp2_with fail
                  go_ret
                  exact ⟨rfl, (HO2.out.trans x4 (by simp)).trans y9 (by simp)⟩
              · skip
                cases es with
                | true =>
                  clear HM2g HM3g
                  go_wp2_with fail
                  refine (HM1.out _ b S2 (HC2.out.keep0 (Ext.refl _ _))).mono ?_
                  rintro e v1 ⟨rfl, y1⟩
                  have x1 := y1
                  clear q0 q1 q2 r0 r1 r2 y1
                  have hxx := HX1.out.keep x1 (by simp); have hff := HF1.out.keep x1 (by simp)
                  have q0 := hxx.cell 0; have q1 := hxx.cell 1; have q2 := hxx.cell 2; have r0 := hff.cell 0; have r1 := hff.cell 1; have r2 := hff.cell 2
                  simp only [List.getElem?_toArray, List.getElem?_cons_zero, List.getElem?_cons_succ] at q0 q1 q2 r0 r1 r2
                  clear hxx hff
                  go_wp2_with fail
                  refine (HH.out _ b S2 (HC2.out.keep0 x1)).mono ?_
                  rintro e v2 ⟨rfl, y2⟩
                  have x2 := x1.trans y2 (by simp)
                  clear q0 q1 q2 r0 r1 r2 y2
                  have hxx := HX1.out.keep x2 (by simp); have hff := HF1.out.keep x2 (by simp)
                  have q0 := hxx.cell 0; have q1 := hxx.cell 1; have q2 := hxx.cell 2; have r0 := hff.cell 0; have r1 := hff.cell 1; have r2 := hff.cell 2
                  simp only [List.getElem?_toArray, List.getElem?_cons_zero, List.getElem?_cons_succ] at q0 q1 q2 r0 r1 r2
                  clear hxx hff
                  go_wp2_with fail
                  refine (awakeC_any _).mono ?_
                  rintro e v9 ⟨rfl, y9⟩
                  go_wp2_with fail
                  go_ret
                  exact ⟨rfl, (HO2.out.trans x2 (by simp)).trans y9 (by simp)⟩
                | false =>
                  have HM3 := Lib.hid (HM3g.out rfl)
                  clear HM2g HM3g
                  go_wp2_with fail
                  refine (HM1.out _ b S2 (HC2.out.keep0 (Ext.refl _ _))).mono ?_
                  rintro e v1 ⟨rfl, y1⟩
                  have x1 := y1
                  clear q0 q1 q2 r0 r1 r2 y1
                  have hxx := HX1.out.keep x1 (by simp); have hff := HF1.out.keep x1 (by simp)
                  have q0 := hxx.cell 0; have q1 := hxx.cell 1; have q2 := hxx.cell 2; have r0 := hff.cell 0; have r1 := hff.cell 1; have r2 := hff.cell 2
                  simp only [List.getElem?_toArray, List.getElem?_cons_zero, List.getElem?_cons_succ] at q0 q1 q2 r0 r1 r2
                  clear hxx hff
                  go_wp2_with fail
                  refine (HM3.out _ b S2 (HC2.out.keep0 x1)).mono ?_
                  rintro e v2 ⟨rfl, y2⟩
                  have x2 := x1.trans y2 (by simp)
                  clear q0 q1 q2 r0 r1 r2 y2
                  have hxx := HX1.out.keep x2 (by simp); have hff := HF1.out.keep x2 (by simp)
                  have q0 := hxx.cell 0; have q1 := hxx.cell 1; have q2 := hxx.cell 2; have r0 := hff.cell 0; have r1 := hff.cell 1; have r2 := hff.cell 2
                  simp only [List.getElem?_toArray, List.getElem?_cons_zero, List.getElem?_cons_succ] at q0 q1 q2 r0 r1 r2
                  clear hxx hff
                  go_wp2_with fail
                  refine (HH.out _ b S2 (HC2.out.keep0 x2)).mono ?_
                  rintro e v3 ⟨rfl, y3⟩
                  have x3 := x2.trans y3 (by simp)
                  clear q0 q1 q2 r0 r1 r2 y3
                  have hxx := HX1.out.keep x3 (by simp); have hff := HF1.out.keep x3 (by simp)
                  have q0 := hxx.cell 0; have q1 := hxx.cell 1; have q2 := hxx.cell 2; have r0 := hff.cell 0; have r1 := hff.cell 1; have r2 := hff.cell 2
                  simp only [List.getElem?_toArray, List.getElem?_cons_zero, List.getElem?_cons_succ] at q0 q1 q2 r0 r1 r2
                  clear hxx hff
                  go_wp2_with fail
                  refine (awakeC_any _).mono ?_
                  rintro e v9 ⟨rfl, y9⟩
                  go_wp2_with fail
                  go_ret
                  exact ⟨rfl, (HO2.out.trans x3 (by simp)).trans y9 (by simp)⟩
end Go.Proofs.Ytkbjpackijdnkaa
