/- CachePlays: its walk. -/
import Derived.Test.YtkbjpackijdnkaaRefCov
import Derived.Test.YtkbjpackijdnkaaRefPut
import Derived.Test.YtkbjpackijdnkaaCacheApart
import Derived.Deep.CutBlock
namespace Go.Proofs.Ytkbjpackijdnkaa
open Go.Joins Go.ChangeShapes Go.WideShapes Go.RowKit Go.Deep Go.Proofs.YtkbjpackijdnkaaW.PrintLast
set_option linter.unusedVariables false
set_option linter.unusedSimpArgs false

structure DeedC where
  op : Int
  e : Ent
  at_ : Int
def encDC (d : DeedC) : List Value := [.int .i64 d.op, .string d.e.org, .string d.e.url, .bool d.e.creds, .string d.e.meth, .string d.e.head, .int .u64 d.e.til, .int .u64 d.at_]

set_option maxRecDepth 100000 in
theorem open_deedC {H : Type} {enc : TypeId × Value → H} {W : World} {a : Option Addr} {n c : Nat} {d : DataW H} {p : List MemPlace} (h : DataW.Trod enc Try.prog W 0 (fun _ => true) true 62 (.slice a n c) d p) :
    ∃ zs : List DeedC, Slc encDC 8 W a n zs ∧ ∀ z ∈ zs, True := by
  refine Slc.open_cellsK (by decide) Try.underlying62 (by kernel_rfl) (fun cs m y hl h => ?_) h
  obtain ⟨ys, n, _, _, _, hlen, hg⟩ := DataW.trod_struct Try.underlying67 h
  have k3 : Try.prog.cellsOf 3 = 1 := by kernel_rfl
  have k35 : Try.prog.cellsOf 35 = 6 := by kernel_rfl
  have k28 : Try.prog.cellsOf 28 = 1 := by kernel_rfl
  match cs, hl with
  | [c0, c1, c2, c3, c4, c5, c6, c7], _ =>
    match ys, hlen with
    | [y0, y1, y2], _ =>
      have g0 : DataW.trod enc Try.prog W 0 (fun _ => true) true n 3 (List.take (Try.prog.cellsOf 3) [c0, c1, c2, c3, c4, c5, c6, c7]) = some y0 := hg 0 _ rfl
      have g1 : DataW.trod enc Try.prog W 0 (fun _ => true) true n 35 (List.take (Try.prog.cellsOf 35) [c1, c2, c3, c4, c5, c6, c7]) = some y1 := hg 1 _ rfl
      have g2 : DataW.trod enc Try.prog W 0 (fun _ => true) true n 28 (List.take (Try.prog.cellsOf 28) [c7]) = some y2 := hg 2 _ rfl
      rw [k3] at g0; rw [k35] at g1; rw [k28] at g2
      obtain ⟨a0, e0, -⟩ := DataW.trod_int Try.underlying3 g0
      obtain ⟨a1, e1, -⟩ := ent_cells _ _ _ (by rfl) g1
      obtain ⟨a2, e2, -⟩ := DataW.trod_int Try.underlying28 g2
      simp at e0 e2
      simp [encE] at e1
      obtain ⟨f1, f2, f3, f4, f5, f6⟩ := e1
      exact ⟨⟨a0, a1, a2⟩, by simp [encDC, e0, e2, f1, f2, f3, f4, f5, f6], trivial⟩

/-- What holds in the midst of a round. -/
def AfterC (most : Int) (w : World) (z : DeedC) (c : Cel) (b r B X j : Nat) (wx : World) : Prop :=
  Blk wx B (encDC z).toArray 67 ∧ Blk wx X (encC c).toArray 33 ∧ ∃ S R L, CO most wx b S L ∧ CR most wx r R L ∧ Own2 w wx S R ∧ KindOk L ∧ L.length ≤ j + 1 ∧ (∀ x ∈ S, x ≠ B ∧ x ≠ X) ∧ (∀ x ∈ R, x ≠ B ∧ x ≠ X)
theorem own_ne2 {R R' : List Nat} {B X N : Nat} (h : ∀ x ∈ R, x ≠ B ∧ x ≠ X) (k : ∀ x ∈ R', x ∈ R ∨ N ≤ x) (hB : B < N) (hX : X < N) : ∀ x ∈ R', x ≠ B ∧ x ≠ X := fun x hx => (k x hx).elim (fun h1 => h x h1) (fun h1 => by omega)

set_option maxHeartbeats 16000000 in
set_option maxRecDepth 100000 in
theorem cachePlays_walk (w : World) (mo : Int) (hmo : (Lit.int .i64 mo).wf = true) (la : Option Addr) (ln lc : Nat) (ds : List DeedC) (hs : Slc encDC 8 w la ln ds) (_hg : ∀ z ∈ ds, True) (c : Cel) (_hc : True) (m : ByteArray) (hm : m.size ≤ 140737488351232) (na : Option Addr) (nn nc : Nat) (ns : List ByteArray) (hns : Slc encS 1 w na nn ns) (hnb : ∀ z ∈ ns, nn < 9223372036854775808) (now : Int) (hnow : (Lit.int .u64 now).wf = true) :
    Calls Try.prog 8 #[.int .i64 mo, .slice la ln lc, .agg (encC c).toArray, .string m, .slice na nn nc, .int .u64 now] w fun e w' => e = .returned (.bool true) ∧ Ext [] w w' := by
  clear _hg _hc hnow hmo
  have hnn0 : nn < 9223372036854775808 := by
    cases ns with
    | nil => have := hns.1; simp at this; omega
    | cons z r => exact hnb z (by simp)
  clear hnb
  obtain ⟨co, cu, cr⟩ := c
  have hX : Blk (w.alloc (.cells #[.string co, .string cu, .bool cr] 33 (0, 0))) w.heap.size #[.string co, .string cu, .bool cr] 33 := Blk.new _ _ _
  have e0 : Ext [] w (w.alloc (.cells #[.string co, .string cu, .bool cr] 33 (0, 0))) := (Ext.refl _ _).alloc _
  have hL1 := long_any 400 (by omega) (by omega) _ 3 3 [co, cu, m] _ (Slc.three_str (w.alloc (.cells #[.string co, .string cu, .bool cr] 33 (0, 0))) co cu m 9) (by omega)
  have hL2 := fun W (hW : Ext [] w W) => long_any 1200 (by omega) (by omega) na nn nc ns W (hns.keep hW) hnn0
  rw [World.size_alloc] at hL1
  obtain ⟨lk1, hlk1⟩ : ∃ l, longL 400 [co, cu, m] = l := ⟨_, rfl⟩
  obtain ⟨lk2, hlk2⟩ : ∃ l, longL 1200 ns = l := ⟨_, rfl⟩
  rw [hlk1] at hL1; rw [hlk2] at hL2
  have HX := Lib.hid hX; have HE0 := Lib.hid e0; have HL1 := Lib.hid hL1; have HL2 := Lib.hid hL2; have HS := Lib.hid hs; have HNS := Lib.hid hns; have HLK2 := Lib.hid hlk2
  clear hX e0 hL1 hL2 hs hns hlk1 hlk2
  unfold encC
  by_cases h150 : 150 < ln
  · have d0 : decide (150 < (ln : Int)) = true := decide_eq_true (by omega)
    go_enter Try.func8, Try.ntmps8
    go_wp2_with fail
    refine (awakeC_any _).mono ?_
    rintro e w1 ⟨rfl, e1⟩
    go_wp2_with fail
    go_ret
    exact ⟨rfl, HE0.out.trans e1 (by simp)⟩
  have d0 : decide (150 < (ln : Int)) = false := decide_eq_false (by omega)
  have hln : ln ≤ 150 := by omega
  clear h150
  cases lk1 with
  | true =>
    go_enter Try.func8, Try.ntmps8
    go_wp2_with fail
    refine HL1.out.mono ?_
    rintro e w1 ⟨rfl, rfl⟩
    go_wp2_with fail
    refine (awakeC_any _).mono ?_
    rintro e w1 ⟨rfl, e1⟩
    go_wp2_with fail
    go_ret
    exact ⟨rfl, (HE0.out.alloc _).trans e1 (by simp)⟩
  | false =>
    cases lk2 with
    | true =>
      go_enter Try.func8, Try.ntmps8
      go_wp2_with fail
      refine HL1.out.mono ?_
      rintro e w1 ⟨rfl, rfl⟩
      go_wp2_with fail
      refine (HL2.out _ (HE0.out.alloc _)).mono ?_
      rintro e w1 ⟨rfl, rfl⟩
      go_wp2_with fail
      refine (awakeC_any _).mono ?_
      rintro e w1 ⟨rfl, e1⟩
      go_wp2_with fail
      go_ret
      exact ⟨rfl, (HE0.out.alloc _).trans e1 (by simp)⟩
    | false =>
      obtain ⟨hsz, hnl⟩ := long_each ns 1200 HLK2.out
      have hnn : nn < 1000000 := by have := hnl (by omega); have := HNS.out.1; omega
      have hsz2 : ∀ s ∈ ns, s.size ≤ 140737488351232 := fun s hs => by have := hsz s hs; omega
      have HSZ := Lib.hid hsz2
      have hnew := fun W => co_new mo W
      have hrnew := fun W => rnewC_any mo W
      have hmo1 : 1 ≤ clampC mo := by unfold clampC; omega
      generalize clampC mo = most at hnew hrnew hmo1
      have HNEW := Lib.hid hnew; have HRNEW := Lib.hid hrnew
      clear hsz hnl hsz2 hnew hrnew HLK2 hnn0
      go_enter Try.func8, Try.ntmps8
      go_wp2_with fail
      refine HL1.out.mono ?_
      rintro e w1 ⟨rfl, rfl⟩
      go_wp2_with fail
      refine (HL2.out _ (HE0.out.alloc _)).mono ?_
      rintro e w1 ⟨rfl, rfl⟩
      have hX := HX.out.alloc (.cells #[.string co, .string cu, .string m] 9 (0, 0))
      have e0 := HE0.out.alloc (.cells #[.string co, .string cu, .string m] 9 (0, 0))
      generalize (w.alloc (Obj.cells #[.string co, .string cu, .bool cr] 33 (0, 0))).alloc (Obj.cells #[.string co, .string cu, .string m] 9 (0, 0)) = w0 at hX e0 ⊢
      have HX0 := Lib.hid hX; have HE1 := Lib.hid e0
      clear hX e0 HX HE0 HL1 HL2
      go_wp2_with fail
      refine (HNEW.out w0).mono ?_
      rintro e w1 ⟨rfl, h1, x1⟩
      have o1 := Own.start (HE1.out.trans x1 (by simp)) (S := [w0.heap.size]) (by simpa using HE1.out.size)
      have hX1 := HX0.out.keep x1 (by simp)
      have hXl := HX0.out.lt
      have hXl1 := hX1.lt
      obtain ⟨b, hb⟩ : ∃ b, w0.heap.size = b := ⟨_, rfl⟩
      rw [hb] at h1 o1 hXl
      have H1 := Lib.hid h1; have O1 := Lib.hid o1; have HX1 := Lib.hid hX1
      clear h1 o1 hX1 x1 HX0 HE1
      go_wp2_with fail
      refine (HRNEW.out w1).mono ?_
      rintro e w2 ⟨rfl, h2, x2⟩
      have o2 := Own2.start O1.out H1.out.lt x2 (R := [w1.heap.size]) (by simp)
      have h1 := H1.out.keep0 x2
      have hX2 := HX1.out.keep x2 (by simp)
      obtain ⟨r, hr⟩ : ∃ r, w1.heap.size = r := ⟨_, rfl⟩
      rw [hr] at h2 o2 hXl1
      obtain ⟨X, hXe⟩ : ∃ X, w.heap.size = X := ⟨_, rfl⟩
      rw [hXe] at hX2 hXl hXl1
      have hSX : Hid (∀ x ∈ [b], x ≠ X) := by intro x hx; simp at hx; omega
      have hRX : Hid (∀ x ∈ [r], x ≠ X) := by intro x hx; simp at hx; omega
      clear x2 H1 O1 HX1 hXl hXl1
      go_wp2_with fail
      clear hb hr hXe
      go_loopw [15] (fun iv wr => ∃ (i : Nat) (S R : List Nat) (xs : List Ent), i ≤ ln ∧ iv = .int .i64 i ∧ CO most wr b S xs ∧ CR most wr r R xs ∧ Own2 w wr S R ∧ xs.length ≤ i ∧ Blk wr X #[.string co, .string cu, .bool cr] 33 ∧ Hid (KindOk xs) ∧ Hid (∀ x ∈ S, x ≠ X) ∧ Hid (∀ x ∈ R, x ≠ X)) (fun iv _ => ln - (intOf iv).toNat)
      case atStart => exact ⟨0, _, _, [], Nat.zero_le _, rfl, h1, h2, o2, Nat.le_refl _, hX2, KindOk.nil, hSX, hRX⟩
      case round =>
        obtain ⟨i, S, R, xs, hil, rfl, hw, hwr, ow, hxl, hXw, hki, hSX, hRX⟩ := hrel
        clear h1 h2 o2 hX2 HNEW HRNEW
        by_cases hi : i < ln
        · have d1 : decide (i < ln) = true := decide_eq_true hi
          obtain ⟨z, hz⟩ : ∃ z, ds[i]? = some z := ⟨_, List.getElem?_eq_getElem (by rw [HS.out.1]; exact hi)⟩
          have hza : ∃ ab ao, la = some ⟨ab, ao, none⟩ ∧ ab < w.heap.size ∧ ∀ (j : Nat) (v : Value), (encDC z)[j]? = some v → w.cell? ⟨ab, ao + (i * 8 + j), none⟩ = some v := by
            obtain ⟨ab, ao, g1, g2, g3⟩ := HS.out.2 (by omega)
            exact ⟨ab, ao, g1, g2, g3 i z hz⟩
          obtain ⟨ab, ao, rfl, hab, hcz⟩ := hza
          have hzz : ∀ (j : Nat) (v : Value), (encDC z)[j]? = some v → wr.cell? ⟨ab, ao + (i * 8 + j), none⟩ = some v := fun j v hv => (ow.ext.cell (p := ⟨ab, ao + (i * 8 + j), none⟩) hab (by simp)).trans (hcz j v hv)
          have hz0 := hzz 0 _ rfl; have hz1 := hzz 1 _ rfl; have hz2 := hzz 2 _ rfl; have hz3 := hzz 3 _ rfl; have hz4 := hzz 4 _ rfl; have hz5 := hzz 5 _ rfl; have hz6 := hzz 6 _ rfl; have hz7 := hzz 7 _ rfl
          simp only [Nat.add_zero, ← Nat.add_assoc] at hz0 hz1 hz2 hz3 hz4 hz5 hz6 hz7
          have b1 : (0 : Int) ≤ (i : Int) := by omega
          have b2 : (i : Int) < (ln : Int) := by omega
          have hgr := great_any z.e (wr.alloc (.cells (encDC z).toArray 67 (0, 0)))
          have hB : Blk (wr.alloc (.cells (encDC z).toArray 67 (0, 0))) wr.heap.size (encDC z).toArray 67 := Blk.new _ _ _
          have e3 : Ext [] wr (wr.alloc (.cells (encDC z).toArray 67 (0, 0))) := (Ext.refl _ _).alloc _
          have hlw := hw.lt; have hlr := hwr.lt; have hlX := hXw.lt
          have hBS : ∀ x ∈ S, x ≠ wr.heap.size := fun x hx => by have := hlw x hx; omega
          have hBR : ∀ x ∈ R, x ≠ wr.heap.size := fun x hx => by have := hlr x hx; omega
          have hSS : Hid (∀ x ∈ S, x ≠ wr.heap.size ∧ x ≠ X) := fun x hx => ⟨hBS x hx, hSX.out x hx⟩
          have hRR : Hid (∀ x ∈ R, x ≠ wr.heap.size ∧ x ≠ X) := fun x hx => ⟨hBR x hx, hRX.out x hx⟩
          obtain ⟨op, ⟨eo, eu, ec, em, eh, et⟩, ta⟩ := z
          obtain ⟨lv, hlv⟩ : ∃ lv, lv = lowI op 4 := ⟨_, rfl⟩
          have hLow := low_any op 4 (by omega) (by omega)
          rw [← hlv] at hLow
          have hlv4 : lv = 0 ∨ lv = 1 ∨ lv = 2 ∨ lv = 3 := by unfold lowI at hlv; omega
          have HGR := Lib.hid hgr; have HB := Lib.hid hB; have E3 := Lib.hid e3; have HW := Lib.hid hw; have HWR := Lib.hid hwr; have HOW := Lib.hid ow; have HXW := Lib.hid hXw; have HLOW := Lib.hid hLow
          clear hz hab hcz hzz hgr hB e3 hw hwr ow hXw hlw hlr hBS hBR hSX hRX hlv hLow
          unfold encE at HGR
          unfold encDC at HGR HB E3
          obtain ⟨gb, hgb⟩ : ∃ g, greatE ⟨eo, eu, ec, em, eh, et⟩ = g := ⟨_, rfl⟩
          have HGB := Lib.hid hgb
          simp only [hgb] at HGR
          clear hgb
          simp only at hz0 hz1 hz2 hz3 hz4 hz5 hz6 hz7 HGR HB E3
          cases gb with
          | true =>
            go_wp2_with fail
            refine HGR.out.mono ?_
            rintro e w3 ⟨rfl, x3⟩
            go_wp2_with fail
            refine (awakeC_any _).mono ?_
            rintro e w4 ⟨rfl, x4⟩
            go_wp2_with fail
            go_ret
            exact ⟨rfl, ((HOW.out.ext.trans E3.out (by simp)).trans x3 (by simp)).trans x4 (by simp)⟩
          | false =>
            have hem : em.size ≤ 140737488351232 := by
              have := (long_each _ 300 (show longL 300 [eo, eu, em, eh] = false from HGB.out)).1 em (by simp)
              omega
            clear HGB
            go_wp2_with fail
            refine HGR.out.mono ?_
            rintro e w3 ⟨rfl, x3⟩
            have x5 := E3.out.trans x3 (by simp)
            have hBx := HB.out.keep x3 (by simp)
            have hw := HW.out.keep0 x5; have hwr := HWR.out.keep0 x5; have ow := HOW.out.quiet x5; have hXw := HXW.out.keep x5 (by simp)
            obtain ⟨B, hBe⟩ : ∃ B, wr.heap.size = B := ⟨_, rfl⟩
            rw [hBe] at hBx hSS hRR hlX
            have k0 : w3.cell? ⟨B, 0, none⟩ = some (.int .i64 op) := hBx.cell 0
            have HBx := Lib.hid hBx; have HW2 := Lib.hid hw; have HWR2 := Lib.hid hwr; have HOW2 := Lib.hid ow; have HXW2 := Lib.hid hXw
            clear hBx hw hwr ow hXw x3 x5 HGR HB E3 HW HWR HOW HXW hz0 hz1 hz2 hz3 hz4 hz5 hz6 hz7
            rw [hBe]
            clear hBe
            go_upto_block 2 with ((go_at_call 13; refine (HLOW.out _).mono ?_; rintro e w4 ⟨rfl, rfl⟩))
            go_cut [16] (fun s16 wx => s16 = .pointer (some ⟨B, 0, none⟩) ∧ AfterC most w ⟨op, ⟨eo, eu, ec, em, eh, et⟩, ta⟩ ⟨co, cu, cr⟩ b r B X i wx)
            case first =>
              have hBS : B ∉ S := fun h => (hSS.out B h).1 rfl
              have hBR : B ∉ R := fun h => (hRR.out B h).1 rfl
              have hXS : X ∉ S := fun h => (hSS.out X h).2 rfl
              have hXR : X ∉ R := fun h => (hRR.out X h).2 rfl
              have k1 : w3.drew.cell? ⟨B, 1, none⟩ = some (.string eo) := HBx.out.drew.cell 1
              have k2 : w3.drew.cell? ⟨B, 1 + 1, none⟩ = some (.string eu) := HBx.out.drew.cell 2
              have k3 : w3.drew.cell? ⟨B, 1 + 2, none⟩ = some (.bool ec) := HBx.out.drew.cell 3
              have k4 : w3.drew.cell? ⟨B, 1 + 3, none⟩ = some (.string em) := HBx.out.drew.cell 4
              have k5 : w3.drew.cell? ⟨B, 1 + 4, none⟩ = some (.string eh) := HBx.out.drew.cell 5
              have k6 : w3.drew.cell? ⟨B, 1 + 5, none⟩ = some (.int .u64 et) := HBx.out.drew.cell 6
              have k7 : w3.drew.cell? ⟨B, 7, none⟩ = some (.int .u64 ta) := HBx.out.drew.cell 7
              have hdw := HW2.out.keep0 (Ext.refl [] w3).drew
              have hdo := HOW2.out.quiet (Ext.refl [] w3).drew
              have HDO := Lib.hid hdo
              have hrl := HWR2.out.lt
              have HRL := Lib.hid hrl
              clear hdo hrl
              rcases (show (lv = 0 ∨ lv = 1) ∨ lv = 2 ∨ lv = 3 by omega) with hlv | rfl | rfl
              · have hgv := co_put most b S xs ⟨eo, eu, ec, em, eh, et⟩ ta (by omega) hmo1 w3.drew hdw
                have hgr := fun W (hW : CR most W r R xs) => cr_put most r R xs ⟨eo, eu, ec, em, eh, et⟩ ta (by omega) hmo1 W hW
                have hll := putM_len (most := most) (e := ⟨eo, eu, ec, em, eh, et⟩) (now := ta) (xs := xs)
                have hko := KindOk.put (most := most) (e := ⟨eo, eu, ec, em, eh, et⟩) (now := ta) hki.out
                unfold PutP at hgv
                unfold RPutP at hgr
                unfold encE at hgv hgr
                generalize putM most ⟨eo, eu, ec, em, eh, et⟩ ta xs = q at hgv hgr hko hll
                obtain ⟨ok, ys⟩ := q
                simp only at hgv hgr hko hll
                have HGV := Lib.hid hgv; have HGR := Lib.hid hgr; have HLL := Lib.hid hll; have HKO := Lib.hid hko
                clear hgv hgr hll hko hdw
                rcases hlv with rfl | rfl
                all_goals
                  go_wp2_with fail
                  refine start_ (n := 13) (S := fun w' => w'.cell? ⟨B, 1, none⟩ = some (.string eo) ∧ w'.cell? ⟨B, 1 + 1, none⟩ = some (.string eu) ∧ w'.cell? ⟨B, 1 + 2, none⟩ = some (.bool ec) ∧ w'.cell? ⟨B, 1 + 3, none⟩ = some (.string em) ∧ w'.cell? ⟨B, 1 + 4, none⟩ = some (.string eh) ∧ w'.cell? ⟨B, 1 + 5, none⟩ = some (.int .u64 et) ∧ w'.cell? ⟨B, 7, none⟩ = some (.int .u64 ta)) (ds := []) #[false, false, false, false, false, false, false, false, false, false, false, false, false] (by kernel_rfl) rfl rfl ⟨k1, k2, k3, k4, k5, k6, k7⟩ (fun hHeld => ?_)
                  refine pure_ (i := 0) (N := some 72) (v := ?_) (a' := ?_) #[true, false, false, false, false, false, false, false, false, false, false, false, false] rfl rfl (by kernel_rfl) (fun _ _ _ h => h) (Or.inl ⟨by rfl, ?_⟩) ?_ ?_
                  rotate_left
                  · intro w'
                    go_simp
                    with_reducible rfl
                  rotate_left
                  · simp only [Act.put, List.setIfInBounds_toArray, List.set_cons_zero, List.set_cons_succ, i64_w, i32_w]
                    rfl
                  refine pure_ (i := 1) (N := some 73) (v := ?_) (a' := ?_) #[true, true, false, false, false, false, false, false, false, false, false, false, false] rfl rfl (by kernel_rfl) (fun _ _ _ h => h) (Or.inl ⟨by rfl, ?_⟩) ?_ ?_
                  rotate_left
                  · intro w'
                    go_simp
                    with_reducible rfl
                  rotate_left
                  · simp only [Act.put, List.setIfInBounds_toArray, List.set_cons_zero, List.set_cons_succ, i64_w, i32_w]
                    rfl
                  refine pure_ (i := 3) (N := some 75) (v := ?_) (a' := ?_) #[true, true, false, true, false, false, false, false, false, false, false, false, false] rfl rfl (by kernel_rfl) (fun _ _ _ h => h) (Or.inl ⟨by rfl, ?_⟩) ?_ ?_
                  rotate_left
                  · intro w'
                    go_simp
                    with_reducible rfl
                  rotate_left
                  · simp only [Act.put, List.setIfInBounds_toArray, List.set_cons_zero, List.set_cons_succ, i64_w, i32_w]
                    rfl
                  refine pure_ (i := 6) (N := some 78) (v := ?_) (a' := ?_) #[true, true, false, true, false, false, true, false, false, false, false, false, false] rfl rfl (by kernel_rfl) (fun _ _ _ h => h) (Or.inl ⟨by rfl, ?_⟩) ?_ ?_
                  rotate_left
                  · intro w'
                    go_simp
                    with_reducible rfl
                  rotate_left
                  · simp only [Act.put, List.setIfInBounds_toArray, List.set_cons_zero, List.set_cons_succ, i64_w, i32_w]
                    rfl
                  refine pure_ (i := 7) (N := some 79) (v := ?_) (a' := ?_) #[true, true, false, true, false, false, true, true, false, false, false, false, false] rfl rfl (by kernel_rfl) (fun _ _ _ h => h) (Or.inl ⟨by rfl, ?_⟩) ?_ ?_
                  rotate_left
                  · intro w'
                    go_simp
                    with_reducible rfl
                  rotate_left
                  · simp only [Act.put, List.setIfInBounds_toArray, List.set_cons_zero, List.set_cons_succ, i64_w, i32_w]
                    rfl
                  refine pure_ (i := 9) (N := some 81) (v := ?_) (a' := ?_) #[true, true, false, true, false, false, true, true, false, true, false, false, false] rfl rfl (by kernel_rfl) (fun _ _ _ h => h) (Or.inl ⟨by rfl, ?_⟩) ?_ ?_
                  rotate_left
                  · intro w'
                    go_simp
                    with_reducible rfl
                  rotate_left
                  · simp only [Act.put, List.setIfInBounds_toArray, List.set_cons_zero, List.set_cons_succ, i64_w, i32_w]
                    rfl
                  refine take_ (i := 2) (N := some 74) (v := ?_) (a' := ?_) #[true, true, true, true, false, false, true, true, false, true, false, false, false] rfl rfl (by kernel_rfl) (fun _ _ _ h => h) (Or.inl ⟨by rfl, ?_⟩) hHeld ?_ ?_
                  rotate_left
                  · rintro w' ⟨s0, s1, s2, s3, s4, s5, s6⟩
                    go_simp
                    with_reducible rfl
                  rotate_left
                  · simp only [Act.put, List.setIfInBounds_toArray, List.set_cons_zero, List.set_cons_succ, i64_w, i32_w]
                    rfl
                  refine take_ (i := 4) (N := some 76) (v := ?_) (a' := ?_) #[true, true, true, true, true, false, true, true, false, true, false, false, false] rfl rfl (by kernel_rfl) (fun _ _ _ h => h) (Or.inl ⟨by rfl, ?_⟩) hHeld ?_ ?_
                  rotate_left
                  · rintro w' ⟨s0, s1, s2, s3, s4, s5, s6⟩
                    go_simp
                    with_reducible rfl
                  rotate_left
                  · simp only [Act.put, List.setIfInBounds_toArray, List.set_cons_zero, List.set_cons_succ, i64_w, i32_w]
                    rfl
                  refine take_ (i := 8) (N := some 80) (v := ?_) (a' := ?_) #[true, true, true, true, true, false, true, true, true, true, false, false, false] rfl rfl (by kernel_rfl) (fun _ _ _ h => h) (Or.inl ⟨by rfl, ?_⟩) hHeld ?_ ?_
                  rotate_left
                  · rintro w' ⟨s0, s1, s2, s3, s4, s5, s6⟩
                    go_simp
                    with_reducible rfl
                  rotate_left
                  · simp only [Act.put, List.setIfInBounds_toArray, List.set_cons_zero, List.set_cons_succ, i64_w, i32_w]
                    rfl
                  refine take_ (i := 10) (N := some 82) (v := ?_) (a' := ?_) #[true, true, true, true, true, false, true, true, true, true, true, false, false] rfl rfl (by kernel_rfl) (fun _ _ _ h => h) (Or.inl ⟨by rfl, ?_⟩) hHeld ?_ ?_
                  rotate_left
                  · rintro w' ⟨s0, s1, s2, s3, s4, s5, s6⟩
                    go_simp
                    with_reducible rfl
                  rotate_left
                  · simp only [Act.put, List.setIfInBounds_toArray, List.set_cons_zero, List.set_cons_succ, i64_w, i32_w]
                    rfl
                  refine one_ (i := 5) (N := some 77) #[true, true, true, true, true, true, true, true, true, true, true, false, false] rfl rfl (by kernel_rfl) (by decide) (fun K hK => ?_)
                  refine goes_ Try.func16 (by kernel_rfl) rfl #[.pointer (some ⟨b, 0, none⟩), .agg #[.string eo, .string eu, .bool ec, .string em, .string eh, .int .u64 et], .int .u64 ta] (by rfl) rfl rfl (by simp only [List.map_toArray, List.map_cons, List.map_nil]; rfl) ?_
                  with_reducible refine (HGV.out).mono ?_
                  rintro e w4 ⟨rfl, S4, h4, e4, g4⟩
                  refine ⟨_, rfl, ?_⟩
                  have hB4 := (HBx.out.drew).keep e4 hBS
                  have hX4 := (HXW2.out.drew).keep e4 hXS
                  have hR4 := (HWR2.out.keep0 (Ext.refl [] w3).drew).keep e4 (fun x hx hs => HDO.out.ne x hs hx)
                  refine hK.out _ _ ⟨(hB4.cell 1), (hB4.cell 2), (hB4.cell 3), (hB4.cell 4), (hB4.cell 5), (hB4.cell 6), (hB4.cell 7)⟩ (fun hHeld => ?_)
                  clear hK K
                  refine norm_ (a' := ?_) ?_ ?_
                  rotate_left
                  · show Act.put _ (some 77) _ = _
                    simp only [Act.put, List.setIfInBounds_toArray, List.set_cons_zero, List.set_cons_succ, i64_w, i32_w]
                    rfl
                  refine one_ (i := 11) (N := some 83) #[true, true, true, true, true, true, true, true, true, true, true, true, false] rfl rfl (by kernel_rfl) (by decide) (fun K hK => ?_)
                  refine goes_ Try.func34 (by kernel_rfl) rfl #[.pointer (some ⟨r, 0, none⟩), .agg #[.string eo, .string eu, .bool ec, .string em, .string eh, .int .u64 et], .int .u64 ta] (by rfl) rfl rfl (by simp only [List.map_toArray, List.map_cons, List.map_nil]; rfl) ?_
                  with_reducible refine (HGR.out _ hR4).mono ?_
                  rintro e w5 ⟨rfl, R5, h5, e5, g5⟩
                  refine ⟨_, rfl, ?_⟩
                  have hB5 := hB4.keep e5 hBR
                  have hX5 := hX4.keep e5 hXR
                  refine hK.out _ _ ⟨(hB5.cell 1), (hB5.cell 2), (hB5.cell 3), (hB5.cell 4), (hB5.cell 5), (hB5.cell 6), (hB5.cell 7)⟩ (fun hHeld => ?_)
                  clear hK K
                  refine norm_ (a' := ?_) ?_ ?_
                  rotate_left
                  · show Act.put _ (some 83) _ = _
                    simp only [Act.put, List.setIfInBounds_toArray, List.set_cons_zero, List.set_cons_succ, i64_w, i32_w]
                    rfl
                  refine pure_ (i := 12) (N := some 84) (v := ?_) (a' := ?_) #[true, true, true, true, true, true, true, true, true, true, true, true, true] rfl rfl (by kernel_rfl) (fun _ _ _ h => h) (Or.inl ⟨by rfl, ?_⟩) ?_ ?_
                  rotate_left
                  · intro w'
                    go_simp
                    with_reducible rfl
                  rotate_left
                  · simp only [Act.put, List.setIfInBounds_toArray, List.set_cons_zero, List.set_cons_succ, i64_w, i32_w]
                    rfl
                  refine done_ (by kernel_rfl) ?_
                  go_wp2_with fail
                  go_meet
                  have o4 := HDO.out.left (HWR2.out.keep0 (Ext.refl [] w3).drew).lt e4 g4
                  have l4 := hB4.lt
                  exact ⟨rfl, hB5, hX5, S4, R5, ys, h4.keep e5 (fun x hx hr => o4.ne x hx hr), h5, o4.right h4.lt e5 g5, HKO.out, by have := HLL.out; omega, own_ne2 hSS.out g4 HBx.out.lt HXW2.out.lt, own_ne2 hRR.out g5 hB4.lt hX4.lt⟩
              · have hgv := co_sweep most b S xs ta (by omega) w3.drew hdw
                have hgr := fun W (hW : CR most W r R xs) => cr_sweep most r R xs ta (by omega) W hW
                have hll : (xs.filter fun x => !lateE ta x).length ≤ xs.length := List.length_filter_le _ _
                have hko := hki.out.filter (fun x => !lateE ta x)
                unfold DropP at hgv
                unfold RDropP at hgr
                generalize (xs.filter fun x => !lateE ta x) = ys at hgv hgr hko hll
                generalize (xs.length : Int) - (ys.length : Int) = q at hgv hgr
                have HGV := Lib.hid hgv; have HGR := Lib.hid hgr; have HLL := Lib.hid hll; have HKO := Lib.hid hko
                clear hgv hgr hll hko hdw
                go_wp2_with fail
                refine start_ (n := 9) (S := fun w' => w'.cell? ⟨B, 7, none⟩ = some (.int .u64 ta)) (ds := []) #[false, false, false, false, false, false, false, false, false] (by kernel_rfl) rfl rfl (k7) (fun hHeld => ?_)
                refine pure_ (i := 0) (N := some 87) (v := ?_) (a' := ?_) #[true, false, false, false, false, false, false, false, false] rfl rfl (by kernel_rfl) (fun _ _ _ h => h) (Or.inl ⟨by rfl, ?_⟩) ?_ ?_
                rotate_left
                · intro w'
                  go_simp
                  with_reducible rfl
                rotate_left
                · simp only [Act.put, List.setIfInBounds_toArray, List.set_cons_zero, List.set_cons_succ, i64_w, i32_w]
                  rfl
                refine pure_ (i := 1) (N := some 88) (v := ?_) (a' := ?_) #[true, true, false, false, false, false, false, false, false] rfl rfl (by kernel_rfl) (fun _ _ _ h => h) (Or.inl ⟨by rfl, ?_⟩) ?_ ?_
                rotate_left
                · intro w'
                  go_simp
                  with_reducible rfl
                rotate_left
                · simp only [Act.put, List.setIfInBounds_toArray, List.set_cons_zero, List.set_cons_succ, i64_w, i32_w]
                  rfl
                refine pure_ (i := 4) (N := some 91) (v := ?_) (a' := ?_) #[true, true, false, false, true, false, false, false, false] rfl rfl (by kernel_rfl) (fun _ _ _ h => h) (Or.inl ⟨by rfl, ?_⟩) ?_ ?_
                rotate_left
                · intro w'
                  go_simp
                  with_reducible rfl
                rotate_left
                · simp only [Act.put, List.setIfInBounds_toArray, List.set_cons_zero, List.set_cons_succ, i64_w, i32_w]
                  rfl
                refine pure_ (i := 5) (N := some 92) (v := ?_) (a' := ?_) #[true, true, false, false, true, true, false, false, false] rfl rfl (by kernel_rfl) (fun _ _ _ h => h) (Or.inl ⟨by rfl, ?_⟩) ?_ ?_
                rotate_left
                · intro w'
                  go_simp
                  with_reducible rfl
                rotate_left
                · simp only [Act.put, List.setIfInBounds_toArray, List.set_cons_zero, List.set_cons_succ, i64_w, i32_w]
                  rfl
                refine take_ (i := 2) (N := some 89) (v := ?_) (a' := ?_) #[true, true, true, false, true, true, false, false, false] rfl rfl (by kernel_rfl) (fun _ _ _ h => h) (Or.inl ⟨by rfl, ?_⟩) hHeld ?_ ?_
                rotate_left
                · intro w' s0
                  go_simp
                  with_reducible rfl
                rotate_left
                · simp only [Act.put, List.setIfInBounds_toArray, List.set_cons_zero, List.set_cons_succ, i64_w, i32_w]
                  rfl
                refine take_ (i := 6) (N := some 93) (v := ?_) (a' := ?_) #[true, true, true, false, true, true, true, false, false] rfl rfl (by kernel_rfl) (fun _ _ _ h => h) (Or.inl ⟨by rfl, ?_⟩) hHeld ?_ ?_
                rotate_left
                · intro w' s0
                  go_simp
                  with_reducible rfl
                rotate_left
                · simp only [Act.put, List.setIfInBounds_toArray, List.set_cons_zero, List.set_cons_succ, i64_w, i32_w]
                  rfl
                refine one_ (i := 3) (N := some 90) #[true, true, true, true, true, true, true, false, false] rfl rfl (by kernel_rfl) (by decide) (fun K hK => ?_)
                refine goes_ Try.func35 (by kernel_rfl) rfl #[.pointer (some ⟨b, 0, none⟩), .int .u64 ta] (by rfl) rfl rfl (by simp only [List.map_toArray, List.map_cons, List.map_nil]; rfl) ?_
                with_reducible refine (HGV.out).mono ?_
                rintro e w4 ⟨rfl, h4, e4⟩
                refine ⟨_, rfl, ?_⟩
                have hB4 := (HBx.out.drew).keep e4 hBS
                have hX4 := (HXW2.out.drew).keep e4 hXS
                have hR4 := (HWR2.out.keep0 (Ext.refl [] w3).drew).keep e4 (fun x hx hs => HDO.out.ne x hs hx)
                refine hK.out _ _ ((hB4.cell 7)) (fun hHeld => ?_)
                clear hK K
                refine norm_ (a' := ?_) ?_ ?_
                rotate_left
                · show Act.put _ (some 90) _ = _
                  simp only [Act.put, List.setIfInBounds_toArray, List.set_cons_zero, List.set_cons_succ, i64_w, i32_w]
                  rfl
                refine one_ (i := 7) (N := some 94) #[true, true, true, true, true, true, true, true, false] rfl rfl (by kernel_rfl) (by decide) (fun K hK => ?_)
                refine goes_ Try.func36 (by kernel_rfl) rfl #[.pointer (some ⟨r, 0, none⟩), .int .u64 ta] (by rfl) rfl rfl (by simp only [List.map_toArray, List.map_cons, List.map_nil]; rfl) ?_
                with_reducible refine (HGR.out _ hR4).mono ?_
                rintro e w5 ⟨rfl, R5, h5, e5, g5⟩
                refine ⟨_, rfl, ?_⟩
                have hB5 := hB4.keep e5 hBR
                have hX5 := hX4.keep e5 hXR
                refine hK.out _ _ ((hB5.cell 7)) (fun hHeld => ?_)
                clear hK K
                refine norm_ (a' := ?_) ?_ ?_
                rotate_left
                · show Act.put _ (some 94) _ = _
                  simp only [Act.put, List.setIfInBounds_toArray, List.set_cons_zero, List.set_cons_succ, i64_w, i32_w]
                  rfl
                refine pure_ (i := 8) (N := some 95) (v := ?_) (a' := ?_) #[true, true, true, true, true, true, true, true, true] rfl rfl (by kernel_rfl) (fun _ _ _ h => h) (Or.inl ⟨by rfl, ?_⟩) ?_ ?_
                rotate_left
                · intro w'
                  go_simp
                  with_reducible rfl
                rotate_left
                · simp only [Act.put, List.setIfInBounds_toArray, List.set_cons_zero, List.set_cons_succ, i64_w, i32_w]
                  rfl
                refine done_ (by kernel_rfl) ?_
                go_wp2_with fail
                go_meet
                have o4 := HDO.out.left (HWR2.out.keep0 (Ext.refl [] w3).drew).lt e4 (fun x h => .inl h)
                exact ⟨rfl, hB5, hX5, S, R5, ys, h4.keep e5 (fun x hx hr => o4.ne x hx hr), h5, o4.right h4.lt e5 g5, HKO.out, by have := HLL.out; omega, hSS.out, own_ne2 hRR.out g5 hB4.lt hX4.lt⟩
              · have hgv := co_clear most b S xs ⟨eo, eu, ec⟩ (by omega) w3.drew hdw
                have hgr := fun W (hW : CR most W r R xs) => cr_clear most r R xs ⟨eo, eu, ec⟩ (by omega) W hW
                have hll : (xs.filter fun x => !ofCell ⟨eo, eu, ec⟩ x).length ≤ xs.length := List.length_filter_le _ _
                have hko := hki.out.filter (fun x => !ofCell ⟨eo, eu, ec⟩ x)
                unfold DropP at hgv
                unfold RDropP at hgr
                unfold encC at hgv hgr
                generalize (xs.filter fun x => !ofCell ⟨eo, eu, ec⟩ x) = ys at hgv hgr hko hll
                generalize (xs.length : Int) - (ys.length : Int) = q at hgv hgr
                have HGV := Lib.hid hgv; have HGR := Lib.hid hgr; have HLL := Lib.hid hll; have HKO := Lib.hid hko
                clear hgv hgr hll hko hdw
                go_wp2_with fail
                refine start_ (n := 11) (S := fun w' => w'.cell? ⟨B, 1, none⟩ = some (.string eo) ∧ w'.cell? ⟨B, 1 + 1, none⟩ = some (.string eu) ∧ w'.cell? ⟨B, 1 + 2, none⟩ = some (.bool ec)) (ds := []) #[false, false, false, false, false, false, false, false, false, false, false] (by kernel_rfl) rfl rfl ⟨k1, k2, k3⟩ (fun hHeld => ?_)
                refine pure_ (i := 0) (N := some 58) (v := ?_) (a' := ?_) #[true, false, false, false, false, false, false, false, false, false, false] rfl rfl (by kernel_rfl) (fun _ _ _ h => h) (Or.inl ⟨by rfl, ?_⟩) ?_ ?_
                rotate_left
                · intro w'
                  go_simp
                  with_reducible rfl
                rotate_left
                · simp only [Act.put, List.setIfInBounds_toArray, List.set_cons_zero, List.set_cons_succ, i64_w, i32_w]
                  rfl
                refine pure_ (i := 1) (N := some 59) (v := ?_) (a' := ?_) #[true, true, false, false, false, false, false, false, false, false, false] rfl rfl (by kernel_rfl) (fun _ _ _ h => h) (Or.inl ⟨by rfl, ?_⟩) ?_ ?_
                rotate_left
                · intro w'
                  go_simp
                  with_reducible rfl
                rotate_left
                · simp only [Act.put, List.setIfInBounds_toArray, List.set_cons_zero, List.set_cons_succ, i64_w, i32_w]
                  rfl
                refine pure_ (i := 2) (N := some 60) (v := ?_) (a' := ?_) #[true, true, true, false, false, false, false, false, false, false, false] rfl rfl (by kernel_rfl) (fun _ _ _ h => h) (Or.inl ⟨by rfl, ?_⟩) ?_ ?_
                rotate_left
                · intro w'
                  go_simp
                  with_reducible rfl
                rotate_left
                · simp only [Act.put, List.setIfInBounds_toArray, List.set_cons_zero, List.set_cons_succ, i64_w, i32_w]
                  rfl
                refine pure_ (i := 5) (N := some 63) (v := ?_) (a' := ?_) #[true, true, true, false, false, true, false, false, false, false, false] rfl rfl (by kernel_rfl) (fun _ _ _ h => h) (Or.inl ⟨by rfl, ?_⟩) ?_ ?_
                rotate_left
                · intro w'
                  go_simp
                  with_reducible rfl
                rotate_left
                · simp only [Act.put, List.setIfInBounds_toArray, List.set_cons_zero, List.set_cons_succ, i64_w, i32_w]
                  rfl
                refine pure_ (i := 6) (N := some 64) (v := ?_) (a' := ?_) #[true, true, true, false, false, true, true, false, false, false, false] rfl rfl (by kernel_rfl) (fun _ _ _ h => h) (Or.inl ⟨by rfl, ?_⟩) ?_ ?_
                rotate_left
                · intro w'
                  go_simp
                  with_reducible rfl
                rotate_left
                · simp only [Act.put, List.setIfInBounds_toArray, List.set_cons_zero, List.set_cons_succ, i64_w, i32_w]
                  rfl
                refine pure_ (i := 7) (N := some 65) (v := ?_) (a' := ?_) #[true, true, true, false, false, true, true, true, false, false, false] rfl rfl (by kernel_rfl) (fun _ _ _ h => h) (Or.inl ⟨by rfl, ?_⟩) ?_ ?_
                rotate_left
                · intro w'
                  go_simp
                  with_reducible rfl
                rotate_left
                · simp only [Act.put, List.setIfInBounds_toArray, List.set_cons_zero, List.set_cons_succ, i64_w, i32_w]
                  rfl
                refine take_ (i := 3) (N := some 61) (v := ?_) (a' := ?_) #[true, true, true, true, false, true, true, true, false, false, false] rfl rfl (by kernel_rfl) (fun _ _ _ h => h) (Or.inl ⟨by rfl, ?_⟩) hHeld ?_ ?_
                rotate_left
                · rintro w' ⟨s0, s1, s2⟩
                  go_simp
                  with_reducible rfl
                rotate_left
                · simp only [Act.put, List.setIfInBounds_toArray, List.set_cons_zero, List.set_cons_succ, i64_w, i32_w]
                  rfl
                refine take_ (i := 8) (N := some 66) (v := ?_) (a' := ?_) #[true, true, true, true, false, true, true, true, true, false, false] rfl rfl (by kernel_rfl) (fun _ _ _ h => h) (Or.inl ⟨by rfl, ?_⟩) hHeld ?_ ?_
                rotate_left
                · rintro w' ⟨s0, s1, s2⟩
                  go_simp
                  with_reducible rfl
                rotate_left
                · simp only [Act.put, List.setIfInBounds_toArray, List.set_cons_zero, List.set_cons_succ, i64_w, i32_w]
                  rfl
                refine one_ (i := 4) (N := some 62) #[true, true, true, true, true, true, true, true, true, false, false] rfl rfl (by kernel_rfl) (by decide) (fun K hK => ?_)
                refine goes_ Try.func19 (by kernel_rfl) rfl #[.pointer (some ⟨b, 0, none⟩), .agg #[.string eo, .string eu, .bool ec]] (by rfl) rfl rfl (by simp only [List.map_toArray, List.map_cons, List.map_nil]; rfl) ?_
                with_reducible refine (HGV.out).mono ?_
                rintro e w4 ⟨rfl, h4, e4⟩
                refine ⟨_, rfl, ?_⟩
                have hB4 := (HBx.out.drew).keep e4 hBS
                have hX4 := (HXW2.out.drew).keep e4 hXS
                have hR4 := (HWR2.out.keep0 (Ext.refl [] w3).drew).keep e4 (fun x hx hs => HDO.out.ne x hs hx)
                refine hK.out _ _ ⟨(hB4.cell 1), (hB4.cell 2), (hB4.cell 3)⟩ (fun hHeld => ?_)
                clear hK K
                refine norm_ (a' := ?_) ?_ ?_
                rotate_left
                · show Act.put _ (some 62) _ = _
                  simp only [Act.put, List.setIfInBounds_toArray, List.set_cons_zero, List.set_cons_succ, i64_w, i32_w]
                  rfl
                refine one_ (i := 9) (N := some 67) #[true, true, true, true, true, true, true, true, true, true, false] rfl rfl (by kernel_rfl) (by decide) (fun K hK => ?_)
                refine goes_ Try.func37 (by kernel_rfl) rfl #[.pointer (some ⟨r, 0, none⟩), .agg #[.string eo, .string eu, .bool ec]] (by rfl) rfl rfl (by simp only [List.map_toArray, List.map_cons, List.map_nil]; rfl) ?_
                with_reducible refine (HGR.out _ hR4).mono ?_
                rintro e w5 ⟨rfl, R5, h5, e5, g5⟩
                refine ⟨_, rfl, ?_⟩
                have hB5 := hB4.keep e5 hBR
                have hX5 := hX4.keep e5 hXR
                refine hK.out _ _ ⟨(hB5.cell 1), (hB5.cell 2), (hB5.cell 3)⟩ (fun hHeld => ?_)
                clear hK K
                refine norm_ (a' := ?_) ?_ ?_
                rotate_left
                · show Act.put _ (some 67) _ = _
                  simp only [Act.put, List.setIfInBounds_toArray, List.set_cons_zero, List.set_cons_succ, i64_w, i32_w]
                  rfl
                refine pure_ (i := 10) (N := some 68) (v := ?_) (a' := ?_) #[true, true, true, true, true, true, true, true, true, true, true] rfl rfl (by kernel_rfl) (fun _ _ _ h => h) (Or.inl ⟨by rfl, ?_⟩) ?_ ?_
                rotate_left
                · intro w'
                  go_simp
                  with_reducible rfl
                rotate_left
                · simp only [Act.put, List.setIfInBounds_toArray, List.set_cons_zero, List.set_cons_succ, i64_w, i32_w]
                  rfl
                refine done_ (by kernel_rfl) ?_
                go_wp2_with fail
                go_meet
                have o4 := HDO.out.left (HWR2.out.keep0 (Ext.refl [] w3).drew).lt e4 (fun x h => .inl h)
                exact ⟨rfl, hB5, hX5, S, R5, ys, h4.keep e5 (fun x hx hr => o4.ne x hx hr), h5, o4.right h4.lt e5 g5, HKO.out, by have := HLL.out; omega, hSS.out, own_ne2 hRR.out g5 hB4.lt hX4.lt⟩
            case rest =>
              obtain ⟨rfl, hBc, hXc, S', R', L', hw', hwr', ow', hok', hlen', hSB', hRB'⟩ := hcut
              have hlB := hBc.lt
              have hd1 : CO most wc.drew b S' L' := hw'.keep0 (Ext.refl [] wc).drew
              have hd2 : CR most wc.drew r R' L' := hwr'.keep0 (Ext.refl [] wc).drew
              obtain ⟨ra, rc, hrv, hrow, -⟩ := hd2.row
              obtain ⟨l, hl⟩ : ∃ l, l = L'.length := ⟨_, rfl⟩
              have hlr : r < wc.drew.heap.size := lt_of_cell hrv
              have hsz : L'.length < 10000 := by omega
              have nsl := fun W (hW : Ext [] wc.drew W) => HNS.out.keep ((ow'.ext.drew).trans hW (by simp))
              have a1 := fun W (hW : Ext [] wc.drew W) => co_entries most b S' L' (by omega) W (hd1.keep0 hW)
              unfold EntriesP at a1
              have a2 := fun v v' W (h : Rw encE 6 35 W v L') (h' : Rw encE 6 35 W v' L') => entries_any v v' L' (by omega) W h h'
              have a3 := fun W (hW : Ext [] wc.drew W) => co_method most b S' L' ⟨eo, eu, ec⟩ m now hsz W (hd1.keep0 hW)
              have a4 := fun W (hW : Ext [] wc.drew W) => cr_method most r R' L' ⟨eo, eu, ec⟩ m now hsz hok' W (hd2.keep0 hW)
              have a5 := fun W (hW : Ext [] wc.drew W) => co_covers most b S' L' ⟨eo, eu, ec⟩ em hem na nn nc ns HSZ.out hnn ta hsz W (hd1.keep0 hW) (nsl W hW)
              have a6 := fun W (hW : Ext [] wc.drew W) => cr_covers most r R' L' ⟨eo, eu, ec⟩ em hem na nn nc ns HSZ.out hnn ta hsz hok' W (hd2.keep0 hW) (nsl W hW)
              have a7 := fun nm (hnm : nm.size ≤ 140737488351232) W (hW : Ext [] wc.drew W) => co_header most b S' L' ⟨eo, eu, ec⟩ nm hnm now hsz W (hd1.keep0 hW)
              have a8 := fun nm (hnm : nm.size ≤ 140737488351232) W (hW : Ext [] wc.drew W) => cr_header most r R' L' ⟨eo, eu, ec⟩ nm hnm now hsz hok' W (hd2.keep0 hW)
              rw [← hl] at a1 hrv hrow hlen'
              generalize methM L' ⟨eo, eu, ec⟩ m now = p1 at a3 a4
              generalize covM L' ⟨eo, eu, ec⟩ em ns ta = p2 at a5 a6
              generalize (fun nm => headM L' ⟨eo, eu, ec⟩ nm now) = p3 at a7 a8
              unfold encC at a3 a4 a5 a6 a7 a8 hXc
              have hat : ∀ (i : Nat) z, ns[i]? = some z → ∃ B o, na = some ⟨B, o, none⟩ ∧ B < wc.drew.heap.size ∧ wc.drew.cell? ⟨B, o + i, none⟩ = some (.string z) := by
                obtain ⟨B, o, hh⟩ := (nsl _ (Ext.refl _ _)).str_at
                exact fun i z hz => ⟨B, o, hh i z hz⟩
              have hnl := HNS.out.1
              have kf : ∀ W, Ext [] wc.drew W → W.cell? ⟨B, 1, none⟩ = some (.string eo) ∧ W.cell? ⟨B, 1 + 1, none⟩ = some (.string eu) ∧ W.cell? ⟨B, 1 + 2, none⟩ = some (.bool ec) ∧ W.cell? ⟨B, 1 + 3, none⟩ = some (.string em) ∧ W.cell? ⟨B, 7, none⟩ = some (.int .u64 ta) ∧ W.cell? ⟨r, 1, none⟩ = some (.slice ra l rc) := fun W hW => by
                have h9 := hBc.drew.keep hW (by simp)
                exact ⟨h9.cell 1, h9.cell 2, h9.cell 3, h9.cell 4, h9.cell 7, (hW.cell (p := ⟨r, 1, none⟩) hlr (by simp)).trans hrv⟩
              have k1 := (kf _ (Ext.refl _ _)).1; have k2 := (kf _ (Ext.refl _ _)).2.1; have k3 := (kf _ (Ext.refl _ _)).2.2.1; have k4 := (kf _ (Ext.refl _ _)).2.2.2.1; have k7 := (kf _ (Ext.refl _ _)).2.2.2.2.1; have kr := (kf _ (Ext.refl _ _)).2.2.2.2.2
              have A1 := Lib.hid a1; have A2 := Lib.hid a2; have A3 := Lib.hid a3; have A4 := Lib.hid a4; have A5 := Lib.hid a5; have A6 := Lib.hid a6; have A7 := Lib.hid a7; have A8 := Lib.hid a8; have HAT := Lib.hid hat; have HNL := Lib.hid hnl; have KF := Lib.hid kf
              have HWc := Lib.hid hw'; have HWRc := Lib.hid hwr'; have HOWc := Lib.hid ow'; have HOKc := Lib.hid hok'; have HXc := Lib.hid hXc; have HSBc := Lib.hid hSB'; have HRBc := Lib.hid hRB'; have HL := Lib.hid hl; have HROW := Lib.hid hrow
              clear a1 a2 a3 a4 a5 a6 a7 a8 hd1 hd2 hw' hwr' ow' hok' hXc hBc hSB' hRB' hl hrv hrow hat hnl kf nsl hsz HBx HW2 HWR2 HOW2 HXW2 hSS hRR hki k0 hlX HLOW hlv4
              go_wp2_with fail
              refine start_ (n := 50) (S := fun w' => w'.cell? ⟨B, 1, none⟩ = some (.string eo) ∧ w'.cell? ⟨B, 1 + 1, none⟩ = some (.string eu) ∧ w'.cell? ⟨B, 1 + 2, none⟩ = some (.bool ec) ∧ w'.cell? ⟨B, 1 + 3, none⟩ = some (.string em) ∧ w'.cell? ⟨B, 7, none⟩ = some (.int .u64 ta) ∧ w'.cell? ⟨r, 1, none⟩ = some (.slice ra l rc)) (ds := []) #[false, false, false, false, false, false, false, false, false, false, false, false, false, false, false, false, false, false, false, false, false, false, false, false, false, false, false, false, false, false, false, false, false, false, false, false, false, false, false, false, false, false, false, false, false, false, false, false, false, false] (by kernel_rfl) rfl rfl ⟨k1, k2, k3, k4, k7, kr⟩ (fun hHeld => ?_)
              refine pure_ (i := 0) (N := some 96) (v := ?_) (a' := ?_) #[true, false, false, false, false, false, false, false, false, false, false, false, false, false, false, false, false, false, false, false, false, false, false, false, false, false, false, false, false, false, false, false, false, false, false, false, false, false, false, false, false, false, false, false, false, false, false, false, false, false] rfl rfl (by kernel_rfl) (fun _ _ _ h => h) (Or.inl ⟨by rfl, ?_⟩) ?_ ?_
              rotate_left
              · intro w'
                go_simp
                with_reducible rfl
              rotate_left
              · simp only [Act.put, List.setIfInBounds_toArray, List.set_cons_zero, List.set_cons_succ, i64_w, i32_w]
                rfl
              refine pure_ (i := 2) (N := some 98) (v := ?_) (a' := ?_) #[true, false, true, false, false, false, false, false, false, false, false, false, false, false, false, false, false, false, false, false, false, false, false, false, false, false, false, false, false, false, false, false, false, false, false, false, false, false, false, false, false, false, false, false, false, false, false, false, false, false] rfl rfl (by kernel_rfl) (fun _ _ _ h => h) (Or.inl ⟨by rfl, ?_⟩) ?_ ?_
              rotate_left
              · intro w'
                go_simp
                with_reducible rfl
              rotate_left
              · simp only [Act.put, List.setIfInBounds_toArray, List.set_cons_zero, List.set_cons_succ, i64_w, i32_w]
                rfl
              refine pure_ (i := 3) (N := some 99) (v := ?_) (a' := ?_) #[true, false, true, true, false, false, false, false, false, false, false, false, false, false, false, false, false, false, false, false, false, false, false, false, false, false, false, false, false, false, false, false, false, false, false, false, false, false, false, false, false, false, false, false, false, false, false, false, false, false] rfl rfl (by kernel_rfl) (fun _ _ _ h => h) (Or.inl ⟨by rfl, ?_⟩) ?_ ?_
              rotate_left
              · intro w'
                go_simp
                with_reducible rfl
              rotate_left
              · simp only [Act.put, List.setIfInBounds_toArray, List.set_cons_zero, List.set_cons_succ, i64_w, i32_w]
                rfl
              refine pure_ (i := 4) (N := some 100) (v := ?_) (a' := ?_) #[true, false, true, true, true, false, false, false, false, false, false, false, false, false, false, false, false, false, false, false, false, false, false, false, false, false, false, false, false, false, false, false, false, false, false, false, false, false, false, false, false, false, false, false, false, false, false, false, false, false] rfl rfl (by kernel_rfl) (fun _ _ _ h => h) (Or.inl ⟨by rfl, ?_⟩) ?_ ?_
              rotate_left
              · intro w'
                go_simp
                with_reducible rfl
              rotate_left
              · simp only [Act.put, List.setIfInBounds_toArray, List.set_cons_zero, List.set_cons_succ, i64_w, i32_w]
                rfl
              refine take_ (i := 5) (N := some 101) (v := ?_) (a' := ?_) #[true, false, true, true, true, true, false, false, false, false, false, false, false, false, false, false, false, false, false, false, false, false, false, false, false, false, false, false, false, false, false, false, false, false, false, false, false, false, false, false, false, false, false, false, false, false, false, false, false, false] rfl rfl (by kernel_rfl) (fun _ _ _ h => h) (Or.inl ⟨by rfl, ?_⟩) hHeld ?_ ?_
              rotate_left
              · rintro w' ⟨s0, s1, s2, s3, s4, s5⟩
                go_simp
                with_reducible rfl
              rotate_left
              · simp only [Act.put, List.setIfInBounds_toArray, List.set_cons_zero, List.set_cons_succ, i64_w, i32_w]
                rfl
              refine one_ (i := 1) (N := some 97) #[true, true, true, true, true, true, false, false, false, false, false, false, false, false, false, false, false, false, false, false, false, false, false, false, false, false, false, false, false, false, false, false, false, false, false, false, false, false, false, false, false, false, false, false, false, false, false, false, false, false] rfl rfl (by kernel_rfl) (by decide) (fun K hK => ?_)
              refine goes_ Try.func15 (by kernel_rfl) rfl #[.pointer (some ⟨b, 0, none⟩)] (by rfl) rfl rfl (by simp only [List.map_toArray, List.map_cons, List.map_nil]; rfl) ?_
              with_reducible refine (A1.out _ (Ext.refl _ _)).mono ?_
              rintro e w4 ⟨a4, c4, rfl, hr4, e4, hf4⟩
              refine ⟨_, rfl, ?_⟩
              refine hK.out _ _ ⟨(KF.out _ e4).1, (KF.out _ e4).2.1, (KF.out _ e4).2.2.1, (KF.out _ e4).2.2.2.1, (KF.out _ e4).2.2.2.2.1, (KF.out _ e4).2.2.2.2.2⟩ (fun hHeld => ?_)
              clear hK K
              refine norm_ (a' := ?_) ?_ ?_
              rotate_left
              · show Act.put _ (some 97) _ = _
                simp only [Act.put, List.setIfInBounds_toArray, List.set_cons_zero, List.set_cons_succ, i64_w, i32_w]
                rfl
              refine one_ (i := 6) (N := some 102) #[true, true, true, true, true, true, true, false, false, false, false, false, false, false, false, false, false, false, false, false, false, false, false, false, false, false, false, false, false, false, false, false, false, false, false, false, false, false, false, false, false, false, false, false, false, false, false, false, false, false] rfl rfl (by kernel_rfl) (by decide) (fun K hK => ?_)
              refine goes_ Try.func17 (by kernel_rfl) rfl #[.slice a4 l c4, .slice ra l rc] (by rfl) rfl rfl (by simp only [List.map_toArray, List.map_cons, List.map_nil]; rfl) ?_
              with_reducible refine (A2.out _ _ _ hr4 (HROW.out.keep e4 (by simp))).mono ?_
              rintro e w5 ⟨rfl, f5⟩
              refine ⟨_, rfl, ?_⟩
              have e5 := e4.trans f5 (by simp)
              refine hK.out _ _ ⟨(KF.out _ e5).1, (KF.out _ e5).2.1, (KF.out _ e5).2.2.1, (KF.out _ e5).2.2.2.1, (KF.out _ e5).2.2.2.2.1, (KF.out _ e5).2.2.2.2.2⟩ (fun hHeld => ?_)
              clear hK K
              refine norm_ (a' := ?_) ?_ ?_
              rotate_left
              · show Act.put _ (some 102) _ = _
                simp only [Act.put, List.setIfInBounds_toArray, List.set_cons_zero, List.set_cons_succ, i64_w, i32_w]
                rfl
              refine pure_ (i := 7) (N := some 103) (v := ?_) (a' := ?_) #[true, true, true, true, true, true, true, true, false, false, false, false, false, false, false, false, false, false, false, false, false, false, false, false, false, false, false, false, false, false, false, false, false, false, false, false, false, false, false, false, false, false, false, false, false, false, false, false, false, false] rfl rfl (by kernel_rfl) (fun _ _ _ h => h) (Or.inl ⟨by rfl, ?_⟩) ?_ ?_
              rotate_left
              · intro w'
                go_simp
                with_reducible rfl
              rotate_left
              · simp only [Act.put, List.setIfInBounds_toArray, List.set_cons_zero, List.set_cons_succ, i64_w, i32_w]
                rfl
              refine pure_ (i := 8) (N := some 104) (v := ?_) (a' := ?_) #[true, true, true, true, true, true, true, true, true, false, false, false, false, false, false, false, false, false, false, false, false, false, false, false, false, false, false, false, false, false, false, false, false, false, false, false, false, false, false, false, false, false, false, false, false, false, false, false, false, false] rfl rfl (by kernel_rfl) (fun _ _ _ h => h) (Or.inl ⟨by rfl, ?_⟩) ?_ ?_
              rotate_left
              · intro w'
                go_simp
                with_reducible rfl
              rotate_left
              · simp only [Act.put, List.setIfInBounds_toArray, List.set_cons_zero, List.set_cons_succ, i64_w, i32_w]
                rfl
              refine pure_ (i := 9) (N := some 105) (v := ?_) (a' := ?_) #[true, true, true, true, true, true, true, true, true, true, false, false, false, false, false, false, false, false, false, false, false, false, false, false, false, false, false, false, false, false, false, false, false, false, false, false, false, false, false, false, false, false, false, false, false, false, false, false, false, false] rfl rfl (by kernel_rfl) (fun _ _ _ h => h) (Or.inl ⟨by rfl, ?_⟩) ?_ ?_
              rotate_left
              · intro w'
                go_simp
                with_reducible rfl
              rotate_left
              · simp only [Act.put, List.setIfInBounds_toArray, List.set_cons_zero, List.set_cons_succ, i64_w, i32_w]
                rfl
              refine pure_ (i := 10) (N := some 106) (v := ?_) (a' := ?_) #[true, true, true, true, true, true, true, true, true, true, true, false, false, false, false, false, false, false, false, false, false, false, false, false, false, false, false, false, false, false, false, false, false, false, false, false, false, false, false, false, false, false, false, false, false, false, false, false, false, false] rfl rfl (by kernel_rfl) (fun _ _ _ h => h) (Or.inl ⟨by rfl, ?_⟩) ?_ ?_
              rotate_left
              · intro w'
                go_simp
                with_reducible rfl
              rotate_left
              · simp only [Act.put, List.setIfInBounds_toArray, List.set_cons_zero, List.set_cons_succ, i64_w, i32_w]
                rfl
              refine pure_ (i := 11) (N := some 107) (v := ?_) (a' := ?_) #[true, true, true, true, true, true, true, true, true, true, true, true, false, false, false, false, false, false, false, false, false, false, false, false, false, false, false, false, false, false, false, false, false, false, false, false, false, false, false, false, false, false, false, false, false, false, false, false, false, false] rfl rfl (by kernel_rfl) (fun _ _ _ h => h) (Or.inl ⟨by rfl, ?_⟩) ?_ ?_
              rotate_left
              · intro w'
                go_simp
                with_reducible rfl
              rotate_left
              · simp only [Act.put, List.setIfInBounds_toArray, List.set_cons_zero, List.set_cons_succ, i64_w, i32_w]
                rfl
              refine pure_ (i := 13) (N := some 109) (v := ?_) (a' := ?_) #[true, true, true, true, true, true, true, true, true, true, true, true, false, true, false, false, false, false, false, false, false, false, false, false, false, false, false, false, false, false, false, false, false, false, false, false, false, false, false, false, false, false, false, false, false, false, false, false, false, false] rfl rfl (by kernel_rfl) (fun _ _ _ h => h) (Or.inl ⟨by rfl, ?_⟩) ?_ ?_
              rotate_left
              · intro w'
                go_simp
                with_reducible rfl
              rotate_left
              · simp only [Act.put, List.setIfInBounds_toArray, List.set_cons_zero, List.set_cons_succ, i64_w, i32_w]
                rfl
              refine pure_ (i := 14) (N := some 110) (v := ?_) (a' := ?_) #[true, true, true, true, true, true, true, true, true, true, true, true, false, true, true, false, false, false, false, false, false, false, false, false, false, false, false, false, false, false, false, false, false, false, false, false, false, false, false, false, false, false, false, false, false, false, false, false, false, false] rfl rfl (by kernel_rfl) (fun _ _ _ h => h) (Or.inl ⟨by rfl, ?_⟩) ?_ ?_
              rotate_left
              · intro w'
                go_simp
                with_reducible rfl
              rotate_left
              · simp only [Act.put, List.setIfInBounds_toArray, List.set_cons_zero, List.set_cons_succ, i64_w, i32_w]
                rfl
              refine pure_ (i := 16) (N := some 112) (v := ?_) (a' := ?_) #[true, true, true, true, true, true, true, true, true, true, true, true, false, true, true, false, true, false, false, false, false, false, false, false, false, false, false, false, false, false, false, false, false, false, false, false, false, false, false, false, false, false, false, false, false, false, false, false, false, false] rfl rfl (by kernel_rfl) (fun _ _ _ h => h) (Or.inl ⟨by rfl, ?_⟩) ?_ ?_
              rotate_left
              · intro w'
                go_simp
                with_reducible rfl
              rotate_left
              · simp only [Act.put, List.setIfInBounds_toArray, List.set_cons_zero, List.set_cons_succ, i64_w, i32_w]
                rfl
              refine pure_ (i := 17) (N := some 113) (v := ?_) (a' := ?_) #[true, true, true, true, true, true, true, true, true, true, true, true, false, true, true, false, true, true, false, false, false, false, false, false, false, false, false, false, false, false, false, false, false, false, false, false, false, false, false, false, false, false, false, false, false, false, false, false, false, false] rfl rfl (by kernel_rfl) (fun _ _ _ h => h) (Or.inl ⟨by rfl, ?_⟩) ?_ ?_
              rotate_left
              · intro w'
                go_simp
                with_reducible rfl
              rotate_left
              · simp only [Act.put, List.setIfInBounds_toArray, List.set_cons_zero, List.set_cons_succ, i64_w, i32_w]
                rfl
              refine pure_ (i := 18) (N := some 114) (v := ?_) (a' := ?_) #[true, true, true, true, true, true, true, true, true, true, true, true, false, true, true, false, true, true, true, false, false, false, false, false, false, false, false, false, false, false, false, false, false, false, false, false, false, false, false, false, false, false, false, false, false, false, false, false, false, false] rfl rfl (by kernel_rfl) (fun _ _ _ h => h) (Or.inl ⟨by rfl, ?_⟩) ?_ ?_
              rotate_left
              · intro w'
                go_simp
                with_reducible rfl
              rotate_left
              · simp only [Act.put, List.setIfInBounds_toArray, List.set_cons_zero, List.set_cons_succ, i64_w, i32_w]
                rfl
              refine pure_ (i := 20) (N := some 116) (v := ?_) (a' := ?_) #[true, true, true, true, true, true, true, true, true, true, true, true, false, true, true, false, true, true, true, false, true, false, false, false, false, false, false, false, false, false, false, false, false, false, false, false, false, false, false, false, false, false, false, false, false, false, false, false, false, false] rfl rfl (by kernel_rfl) (fun _ _ _ h => h) (Or.inl ⟨by rfl, ?_⟩) ?_ ?_
              rotate_left
              · intro w'
                go_simp
                with_reducible rfl
              rotate_left
              · simp only [Act.put, List.setIfInBounds_toArray, List.set_cons_zero, List.set_cons_succ, i64_w, i32_w]
                rfl
              refine pure_ (i := 21) (N := some 117) (v := ?_) (a' := ?_) #[true, true, true, true, true, true, true, true, true, true, true, true, false, true, true, false, true, true, true, false, true, true, false, false, false, false, false, false, false, false, false, false, false, false, false, false, false, false, false, false, false, false, false, false, false, false, false, false, false, false] rfl rfl (by kernel_rfl) (fun _ _ _ h => h) (Or.inl ⟨by rfl, ?_⟩) ?_ ?_
              rotate_left
              · intro w'
                go_simp
                with_reducible rfl
              rotate_left
              · simp only [Act.put, List.setIfInBounds_toArray, List.set_cons_zero, List.set_cons_succ, i64_w, i32_w]
                rfl
              refine take_ (i := 12) (N := some 108) (v := ?_) (a' := ?_) #[true, true, true, true, true, true, true, true, true, true, true, true, true, true, true, false, true, true, true, false, true, true, false, false, false, false, false, false, false, false, false, false, false, false, false, false, false, false, false, false, false, false, false, false, false, false, false, false, false, false] rfl rfl (by kernel_rfl) (fun _ _ _ h => h) (Or.inl ⟨by rfl, ?_⟩) hHeld ?_ ?_
              rotate_left
              · rintro w' ⟨s0, s1, s2, s3, s4, s5⟩
                go_simp
                with_reducible rfl
              rotate_left
              · simp only [Act.put, List.setIfInBounds_toArray, List.set_cons_zero, List.set_cons_succ, i64_w, i32_w]
                rfl
              refine take_ (i := 19) (N := some 115) (v := ?_) (a' := ?_) #[true, true, true, true, true, true, true, true, true, true, true, true, true, true, true, false, true, true, true, true, true, true, false, false, false, false, false, false, false, false, false, false, false, false, false, false, false, false, false, false, false, false, false, false, false, false, false, false, false, false] rfl rfl (by kernel_rfl) (fun _ _ _ h => h) (Or.inl ⟨by rfl, ?_⟩) hHeld ?_ ?_
              rotate_left
              · rintro w' ⟨s0, s1, s2, s3, s4, s5⟩
                go_simp
                with_reducible rfl
              rotate_left
              · simp only [Act.put, List.setIfInBounds_toArray, List.set_cons_zero, List.set_cons_succ, i64_w, i32_w]
                rfl
              refine one_ (i := 15) (N := some 111) #[true, true, true, true, true, true, true, true, true, true, true, true, true, true, true, true, true, true, true, true, true, true, false, false, false, false, false, false, false, false, false, false, false, false, false, false, false, false, false, false, false, false, false, false, false, false, false, false, false, false] rfl rfl (by kernel_rfl) (by decide) (fun K hK => ?_)
              refine goes_ Try.func20 (by kernel_rfl) rfl #[.pointer (some ⟨b, 0, none⟩), .agg #[.string eo, .string eu, .bool ec], .string m, .int .u64 now] (by rfl) rfl rfl (by simp only [List.map_toArray, List.map_cons, List.map_nil]; rfl) ?_
              with_reducible refine (A3.out _ e5).mono ?_
              rintro e w6 ⟨rfl, f6⟩
              refine ⟨_, rfl, ?_⟩
              have e6 := e5.trans f6 (by simp)
              refine hK.out _ _ ⟨(KF.out _ e6).1, (KF.out _ e6).2.1, (KF.out _ e6).2.2.1, (KF.out _ e6).2.2.2.1, (KF.out _ e6).2.2.2.2.1, (KF.out _ e6).2.2.2.2.2⟩ (fun hHeld => ?_)
              clear hK K
              refine norm_ (a' := ?_) ?_ ?_
              rotate_left
              · show Act.put _ (some 111) _ = _
                simp only [Act.put, List.setIfInBounds_toArray, List.set_cons_zero, List.set_cons_succ, i64_w, i32_w]
                rfl
              refine one_ (i := 22) (N := some 118) #[true, true, true, true, true, true, true, true, true, true, true, true, true, true, true, true, true, true, true, true, true, true, true, false, false, false, false, false, false, false, false, false, false, false, false, false, false, false, false, false, false, false, false, false, false, false, false, false, false, false] rfl rfl (by kernel_rfl) (by decide) (fun K hK => ?_)
              refine goes_ Try.func38 (by kernel_rfl) rfl #[.pointer (some ⟨r, 0, none⟩), .agg #[.string eo, .string eu, .bool ec], .string m, .int .u64 now] (by rfl) rfl rfl (by simp only [List.map_toArray, List.map_cons, List.map_nil]; rfl) ?_
              with_reducible refine (A4.out _ e6).mono ?_
              rintro e w7 ⟨rfl, f7⟩
              refine ⟨_, rfl, ?_⟩
              have e7 := e6.trans f7 (by simp)
              refine hK.out _ _ ⟨(KF.out _ e7).1, (KF.out _ e7).2.1, (KF.out _ e7).2.2.1, (KF.out _ e7).2.2.2.1, (KF.out _ e7).2.2.2.2.1, (KF.out _ e7).2.2.2.2.2⟩ (fun hHeld => ?_)
              clear hK K
              refine norm_ (a' := ?_) ?_ ?_
              rotate_left
              · show Act.put _ (some 118) _ = _
                simp only [Act.put, List.setIfInBounds_toArray, List.set_cons_zero, List.set_cons_succ, i64_w, i32_w]
                rfl
              refine pure_ (i := 23) (N := some 119) (v := ?_) (a' := ?_) #[true, true, true, true, true, true, true, true, true, true, true, true, true, true, true, true, true, true, true, true, true, true, true, true, false, false, false, false, false, false, false, false, false, false, false, false, false, false, false, false, false, false, false, false, false, false, false, false, false, false] rfl rfl (by kernel_rfl) (fun _ _ _ h => h) (Or.inl ⟨by rfl, ?_⟩) ?_ ?_
              rotate_left
              · intro w'
                go_simp
                with_reducible rfl
              rotate_left
              · simp only [Act.put, List.setIfInBounds_toArray, List.set_cons_zero, List.set_cons_succ, i64_w, i32_w]
                rfl
              refine pure_ (i := 24) (N := some 120) (v := ?_) (a' := ?_) #[true, true, true, true, true, true, true, true, true, true, true, true, true, true, true, true, true, true, true, true, true, true, true, true, true, false, false, false, false, false, false, false, false, false, false, false, false, false, false, false, false, false, false, false, false, false, false, false, false, false] rfl rfl (by kernel_rfl) (fun _ _ _ h => h) (Or.inl ⟨by rfl, ?_⟩) ?_ ?_
              rotate_left
              · intro w'
                go_simp
                with_reducible rfl
              rotate_left
              · simp only [Act.put, List.setIfInBounds_toArray, List.set_cons_zero, List.set_cons_succ, i64_w, i32_w]
                rfl
              refine pure_ (i := 25) (N := some 121) (v := ?_) (a' := ?_) #[true, true, true, true, true, true, true, true, true, true, true, true, true, true, true, true, true, true, true, true, true, true, true, true, true, true, false, false, false, false, false, false, false, false, false, false, false, false, false, false, false, false, false, false, false, false, false, false, false, false] rfl rfl (by kernel_rfl) (fun _ _ _ h => h) (Or.inl ⟨by rfl, ?_⟩) ?_ ?_
              rotate_left
              · intro w'
                go_simp
                with_reducible rfl
              rotate_left
              · simp only [Act.put, List.setIfInBounds_toArray, List.set_cons_zero, List.set_cons_succ, i64_w, i32_w]
                rfl
              refine pure_ (i := 26) (N := some 122) (v := ?_) (a' := ?_) #[true, true, true, true, true, true, true, true, true, true, true, true, true, true, true, true, true, true, true, true, true, true, true, true, true, true, true, false, false, false, false, false, false, false, false, false, false, false, false, false, false, false, false, false, false, false, false, false, false, false] rfl rfl (by kernel_rfl) (fun _ _ _ h => h) (Or.inl ⟨by rfl, ?_⟩) ?_ ?_
              rotate_left
              · intro w'
                go_simp
                with_reducible rfl
              rotate_left
              · simp only [Act.put, List.setIfInBounds_toArray, List.set_cons_zero, List.set_cons_succ, i64_w, i32_w]
                rfl
              refine pure_ (i := 27) (N := some 123) (v := ?_) (a' := ?_) #[true, true, true, true, true, true, true, true, true, true, true, true, true, true, true, true, true, true, true, true, true, true, true, true, true, true, true, true, false, false, false, false, false, false, false, false, false, false, false, false, false, false, false, false, false, false, false, false, false, false] rfl rfl (by kernel_rfl) (fun _ _ _ h => h) (Or.inl ⟨by rfl, ?_⟩) ?_ ?_
              rotate_left
              · intro w'
                go_simp
                with_reducible rfl
              rotate_left
              · simp only [Act.put, List.setIfInBounds_toArray, List.set_cons_zero, List.set_cons_succ, i64_w, i32_w]
                rfl
              refine pure_ (i := 28) (N := some 124) (v := ?_) (a' := ?_) #[true, true, true, true, true, true, true, true, true, true, true, true, true, true, true, true, true, true, true, true, true, true, true, true, true, true, true, true, true, false, false, false, false, false, false, false, false, false, false, false, false, false, false, false, false, false, false, false, false, false] rfl rfl (by kernel_rfl) (fun _ _ _ h => h) (Or.inl ⟨by rfl, ?_⟩) ?_ ?_
              rotate_left
              · intro w'
                go_simp
                with_reducible rfl
              rotate_left
              · simp only [Act.put, List.setIfInBounds_toArray, List.set_cons_zero, List.set_cons_succ, i64_w, i32_w]
                rfl
              refine pure_ (i := 30) (N := some 126) (v := ?_) (a' := ?_) #[true, true, true, true, true, true, true, true, true, true, true, true, true, true, true, true, true, true, true, true, true, true, true, true, true, true, true, true, true, false, true, false, false, false, false, false, false, false, false, false, false, false, false, false, false, false, false, false, false, false] rfl rfl (by kernel_rfl) (fun _ _ _ h => h) (Or.inl ⟨by rfl, ?_⟩) ?_ ?_
              rotate_left
              · intro w'
                go_simp
                with_reducible rfl
              rotate_left
              · simp only [Act.put, List.setIfInBounds_toArray, List.set_cons_zero, List.set_cons_succ, i64_w, i32_w]
                rfl
              refine pure_ (i := 31) (N := some 127) (v := ?_) (a' := ?_) #[true, true, true, true, true, true, true, true, true, true, true, true, true, true, true, true, true, true, true, true, true, true, true, true, true, true, true, true, true, false, true, true, false, false, false, false, false, false, false, false, false, false, false, false, false, false, false, false, false, false] rfl rfl (by kernel_rfl) (fun _ _ _ h => h) (Or.inl ⟨by rfl, ?_⟩) ?_ ?_
              rotate_left
              · intro w'
                go_simp
                with_reducible rfl
              rotate_left
              · simp only [Act.put, List.setIfInBounds_toArray, List.set_cons_zero, List.set_cons_succ, i64_w, i32_w]
                rfl
              refine pure_ (i := 33) (N := some 129) (v := ?_) (a' := ?_) #[true, true, true, true, true, true, true, true, true, true, true, true, true, true, true, true, true, true, true, true, true, true, true, true, true, true, true, true, true, false, true, true, false, true, false, false, false, false, false, false, false, false, false, false, false, false, false, false, false, false] rfl rfl (by kernel_rfl) (fun _ _ _ h => h) (Or.inl ⟨by rfl, ?_⟩) ?_ ?_
              rotate_left
              · intro w'
                go_simp
                with_reducible rfl
              rotate_left
              · simp only [Act.put, List.setIfInBounds_toArray, List.set_cons_zero, List.set_cons_succ, i64_w, i32_w]
                rfl
              refine pure_ (i := 34) (N := some 130) (v := ?_) (a' := ?_) #[true, true, true, true, true, true, true, true, true, true, true, true, true, true, true, true, true, true, true, true, true, true, true, true, true, true, true, true, true, false, true, true, false, true, true, false, false, false, false, false, false, false, false, false, false, false, false, false, false, false] rfl rfl (by kernel_rfl) (fun _ _ _ h => h) (Or.inl ⟨by rfl, ?_⟩) ?_ ?_
              rotate_left
              · intro w'
                go_simp
                with_reducible rfl
              rotate_left
              · simp only [Act.put, List.setIfInBounds_toArray, List.set_cons_zero, List.set_cons_succ, i64_w, i32_w]
                rfl
              refine pure_ (i := 37) (N := some 133) (v := ?_) (a' := ?_) #[true, true, true, true, true, true, true, true, true, true, true, true, true, true, true, true, true, true, true, true, true, true, true, true, true, true, true, true, true, false, true, true, false, true, true, false, false, true, false, false, false, false, false, false, false, false, false, false, false, false] rfl rfl (by kernel_rfl) (fun _ _ _ h => h) (Or.inl ⟨by rfl, ?_⟩) ?_ ?_
              rotate_left
              · intro w'
                go_simp
                with_reducible rfl
              rotate_left
              · simp only [Act.put, List.setIfInBounds_toArray, List.set_cons_zero, List.set_cons_succ, i64_w, i32_w]
                rfl
              refine pure_ (i := 38) (N := some 134) (v := ?_) (a' := ?_) #[true, true, true, true, true, true, true, true, true, true, true, true, true, true, true, true, true, true, true, true, true, true, true, true, true, true, true, true, true, false, true, true, false, true, true, false, false, true, true, false, false, false, false, false, false, false, false, false, false, false] rfl rfl (by kernel_rfl) (fun _ _ _ h => h) (Or.inl ⟨by rfl, ?_⟩) ?_ ?_
              rotate_left
              · intro w'
                go_simp
                with_reducible rfl
              rotate_left
              · simp only [Act.put, List.setIfInBounds_toArray, List.set_cons_zero, List.set_cons_succ, i64_w, i32_w]
                rfl
              refine pure_ (i := 39) (N := some 135) (v := ?_) (a' := ?_) #[true, true, true, true, true, true, true, true, true, true, true, true, true, true, true, true, true, true, true, true, true, true, true, true, true, true, true, true, true, false, true, true, false, true, true, false, false, true, true, true, false, false, false, false, false, false, false, false, false, false] rfl rfl (by kernel_rfl) (fun _ _ _ h => h) (Or.inl ⟨by rfl, ?_⟩) ?_ ?_
              rotate_left
              · intro w'
                go_simp
                with_reducible rfl
              rotate_left
              · simp only [Act.put, List.setIfInBounds_toArray, List.set_cons_zero, List.set_cons_succ, i64_w, i32_w]
                rfl
              refine pure_ (i := 41) (N := some 137) (v := ?_) (a' := ?_) #[true, true, true, true, true, true, true, true, true, true, true, true, true, true, true, true, true, true, true, true, true, true, true, true, true, true, true, true, true, false, true, true, false, true, true, false, false, true, true, true, false, true, false, false, false, false, false, false, false, false] rfl rfl (by kernel_rfl) (fun _ _ _ h => h) (Or.inl ⟨by rfl, ?_⟩) ?_ ?_
              rotate_left
              · intro w'
                go_simp
                with_reducible rfl
              rotate_left
              · simp only [Act.put, List.setIfInBounds_toArray, List.set_cons_zero, List.set_cons_succ, i64_w, i32_w]
                rfl
              refine pure_ (i := 42) (N := some 138) (v := ?_) (a' := ?_) #[true, true, true, true, true, true, true, true, true, true, true, true, true, true, true, true, true, true, true, true, true, true, true, true, true, true, true, true, true, false, true, true, false, true, true, false, false, true, true, true, false, true, true, false, false, false, false, false, false, false] rfl rfl (by kernel_rfl) (fun _ _ _ h => h) (Or.inl ⟨by rfl, ?_⟩) ?_ ?_
              rotate_left
              · intro w'
                go_simp
                with_reducible rfl
              rotate_left
              · simp only [Act.put, List.setIfInBounds_toArray, List.set_cons_zero, List.set_cons_succ, i64_w, i32_w]
                rfl
              refine pure_ (i := 44) (N := some 140) (v := ?_) (a' := ?_) #[true, true, true, true, true, true, true, true, true, true, true, true, true, true, true, true, true, true, true, true, true, true, true, true, true, true, true, true, true, false, true, true, false, true, true, false, false, true, true, true, false, true, true, false, true, false, false, false, false, false] rfl rfl (by kernel_rfl) (fun _ _ _ h => h) (Or.inl ⟨by rfl, ?_⟩) ?_ ?_
              rotate_left
              · intro w'
                go_simp
                with_reducible rfl
              rotate_left
              · simp only [Act.put, List.setIfInBounds_toArray, List.set_cons_zero, List.set_cons_succ, i64_w, i32_w]
                rfl
              refine pure_ (i := 45) (N := some 141) (v := ?_) (a' := ?_) #[true, true, true, true, true, true, true, true, true, true, true, true, true, true, true, true, true, true, true, true, true, true, true, true, true, true, true, true, true, false, true, true, false, true, true, false, false, true, true, true, false, true, true, false, true, true, false, false, false, false] rfl rfl (by kernel_rfl) (fun _ _ _ h => h) (Or.inl ⟨by rfl, ?_⟩) ?_ ?_
              rotate_left
              · intro w'
                go_simp
                with_reducible rfl
              rotate_left
              · simp only [Act.put, List.setIfInBounds_toArray, List.set_cons_zero, List.set_cons_succ, i64_w, i32_w]
                rfl
              refine take_ (i := 29) (N := some 125) (v := ?_) (a' := ?_) #[true, true, true, true, true, true, true, true, true, true, true, true, true, true, true, true, true, true, true, true, true, true, true, true, true, true, true, true, true, true, true, true, false, true, true, false, false, true, true, true, false, true, true, false, true, true, false, false, false, false] rfl rfl (by kernel_rfl) (fun _ _ _ h => h) (Or.inl ⟨by rfl, ?_⟩) hHeld ?_ ?_
              rotate_left
              · rintro w' ⟨s0, s1, s2, s3, s4, s5⟩
                go_simp
                with_reducible rfl
              rotate_left
              · simp only [Act.put, List.setIfInBounds_toArray, List.set_cons_zero, List.set_cons_succ, i64_w, i32_w]
                rfl
              refine take_ (i := 32) (N := some 128) (v := ?_) (a' := ?_) #[true, true, true, true, true, true, true, true, true, true, true, true, true, true, true, true, true, true, true, true, true, true, true, true, true, true, true, true, true, true, true, true, true, true, true, false, false, true, true, true, false, true, true, false, true, true, false, false, false, false] rfl rfl (by kernel_rfl) (fun _ _ _ h => h) (Or.inl ⟨by rfl, ?_⟩) hHeld ?_ ?_
              rotate_left
              · rintro w' ⟨s0, s1, s2, s3, s4, s5⟩
                go_simp
                with_reducible rfl
              rotate_left
              · simp only [Act.put, List.setIfInBounds_toArray, List.set_cons_zero, List.set_cons_succ, i64_w, i32_w]
                rfl
              refine take_ (i := 35) (N := some 131) (v := ?_) (a' := ?_) #[true, true, true, true, true, true, true, true, true, true, true, true, true, true, true, true, true, true, true, true, true, true, true, true, true, true, true, true, true, true, true, true, true, true, true, true, false, true, true, true, false, true, true, false, true, true, false, false, false, false] rfl rfl (by kernel_rfl) (fun _ _ _ h => h) (Or.inl ⟨by rfl, ?_⟩) hHeld ?_ ?_
              rotate_left
              · rintro w' ⟨s0, s1, s2, s3, s4, s5⟩
                go_simp
                with_reducible rfl
              rotate_left
              · simp only [Act.put, List.setIfInBounds_toArray, List.set_cons_zero, List.set_cons_succ, i64_w, i32_w]
                rfl
              refine take_ (i := 40) (N := some 136) (v := ?_) (a' := ?_) #[true, true, true, true, true, true, true, true, true, true, true, true, true, true, true, true, true, true, true, true, true, true, true, true, true, true, true, true, true, true, true, true, true, true, true, true, false, true, true, true, true, true, true, false, true, true, false, false, false, false] rfl rfl (by kernel_rfl) (fun _ _ _ h => h) (Or.inl ⟨by rfl, ?_⟩) hHeld ?_ ?_
              rotate_left
              · rintro w' ⟨s0, s1, s2, s3, s4, s5⟩
                go_simp
                with_reducible rfl
              rotate_left
              · simp only [Act.put, List.setIfInBounds_toArray, List.set_cons_zero, List.set_cons_succ, i64_w, i32_w]
                rfl
              refine take_ (i := 43) (N := some 139) (v := ?_) (a' := ?_) #[true, true, true, true, true, true, true, true, true, true, true, true, true, true, true, true, true, true, true, true, true, true, true, true, true, true, true, true, true, true, true, true, true, true, true, true, false, true, true, true, true, true, true, true, true, true, false, false, false, false] rfl rfl (by kernel_rfl) (fun _ _ _ h => h) (Or.inl ⟨by rfl, ?_⟩) hHeld ?_ ?_
              rotate_left
              · rintro w' ⟨s0, s1, s2, s3, s4, s5⟩
                go_simp
                with_reducible rfl
              rotate_left
              · simp only [Act.put, List.setIfInBounds_toArray, List.set_cons_zero, List.set_cons_succ, i64_w, i32_w]
                rfl
              refine take_ (i := 46) (N := some 142) (v := ?_) (a' := ?_) #[true, true, true, true, true, true, true, true, true, true, true, true, true, true, true, true, true, true, true, true, true, true, true, true, true, true, true, true, true, true, true, true, true, true, true, true, false, true, true, true, true, true, true, true, true, true, true, false, false, false] rfl rfl (by kernel_rfl) (fun _ _ _ h => h) (Or.inl ⟨by rfl, ?_⟩) hHeld ?_ ?_
              rotate_left
              · rintro w' ⟨s0, s1, s2, s3, s4, s5⟩
                go_simp
                with_reducible rfl
              rotate_left
              · simp only [Act.put, List.setIfInBounds_toArray, List.set_cons_zero, List.set_cons_succ, i64_w, i32_w]
                rfl
              refine one_ (i := 36) (N := some 132) #[true, true, true, true, true, true, true, true, true, true, true, true, true, true, true, true, true, true, true, true, true, true, true, true, true, true, true, true, true, true, true, true, true, true, true, true, true, true, true, true, true, true, true, true, true, true, true, false, false, false] rfl rfl (by kernel_rfl) (by decide) (fun K hK => ?_)
              refine goes_ Try.func39 (by kernel_rfl) rfl #[.pointer (some ⟨b, 0, none⟩), .agg #[.string eo, .string eu, .bool ec], .string em, .slice na nn nc, .int .u64 ta] (by rfl) rfl rfl (by simp only [List.map_toArray, List.map_cons, List.map_nil]; rfl) ?_
              with_reducible refine (A5.out _ e7).mono ?_
              rintro e w8 ⟨rfl, f8⟩
              refine ⟨_, rfl, ?_⟩
              have e8 := e7.trans f8 (by simp)
              refine hK.out _ _ ⟨(KF.out _ e8).1, (KF.out _ e8).2.1, (KF.out _ e8).2.2.1, (KF.out _ e8).2.2.2.1, (KF.out _ e8).2.2.2.2.1, (KF.out _ e8).2.2.2.2.2⟩ (fun hHeld => ?_)
              clear hK K
              refine norm_ (a' := ?_) ?_ ?_
              rotate_left
              · show Act.put _ (some 132) _ = _
                simp only [Act.put, List.setIfInBounds_toArray, List.set_cons_zero, List.set_cons_succ, i64_w, i32_w]
                rfl
              refine one_ (i := 47) (N := some 143) #[true, true, true, true, true, true, true, true, true, true, true, true, true, true, true, true, true, true, true, true, true, true, true, true, true, true, true, true, true, true, true, true, true, true, true, true, true, true, true, true, true, true, true, true, true, true, true, true, false, false] rfl rfl (by kernel_rfl) (by decide) (fun K hK => ?_)
              refine goes_ Try.func40 (by kernel_rfl) rfl #[.pointer (some ⟨r, 0, none⟩), .agg #[.string eo, .string eu, .bool ec], .string em, .slice na nn nc, .int .u64 ta] (by rfl) rfl rfl (by simp only [List.map_toArray, List.map_cons, List.map_nil]; rfl) ?_
              with_reducible refine (A6.out _ e8).mono ?_
              rintro e w9 ⟨rfl, f9⟩
              refine ⟨_, rfl, ?_⟩
              have e9 := e8.trans f9 (by simp)
              refine hK.out _ _ ⟨(KF.out _ e9).1, (KF.out _ e9).2.1, (KF.out _ e9).2.2.1, (KF.out _ e9).2.2.2.1, (KF.out _ e9).2.2.2.2.1, (KF.out _ e9).2.2.2.2.2⟩ (fun hHeld => ?_)
              clear hK K
              refine norm_ (a' := ?_) ?_ ?_
              rotate_left
              · show Act.put _ (some 143) _ = _
                simp only [Act.put, List.setIfInBounds_toArray, List.set_cons_zero, List.set_cons_succ, i64_w, i32_w]
                rfl
              refine pure_ (i := 48) (N := some 144) (v := ?_) (a' := ?_) #[true, true, true, true, true, true, true, true, true, true, true, true, true, true, true, true, true, true, true, true, true, true, true, true, true, true, true, true, true, true, true, true, true, true, true, true, true, true, true, true, true, true, true, true, true, true, true, true, true, false] rfl rfl (by kernel_rfl) (fun _ _ _ h => h) (Or.inl ⟨by rfl, ?_⟩) ?_ ?_
              rotate_left
              · intro w'
                go_simp
                with_reducible rfl
              rotate_left
              · simp only [Act.put, List.setIfInBounds_toArray, List.set_cons_zero, List.set_cons_succ, i64_w, i32_w]
                rfl
              refine pure_ (i := 49) (N := some 145) (v := ?_) (a' := ?_) #[true, true, true, true, true, true, true, true, true, true, true, true, true, true, true, true, true, true, true, true, true, true, true, true, true, true, true, true, true, true, true, true, true, true, true, true, true, true, true, true, true, true, true, true, true, true, true, true, true, true] rfl rfl (by kernel_rfl) (fun _ _ _ h => h) (Or.inl ⟨by rfl, ?_⟩) ?_ ?_
              rotate_left
              · intro w'
                go_simp
                with_reducible rfl
              rotate_left
              · simp only [Act.put, List.setIfInBounds_toArray, List.set_cons_zero, List.set_cons_succ, i64_w, i32_w]
                rfl
              refine done_ (by kernel_rfl) ?_
              clear k1 k2 k3 k4 k7 kr
              have E9 := Lib.hid e9
              clear e4 f5 e5 f6 e6 f7 e7 f8 e8 f9 e9 hr4 hf4
              go_wp2_with fail
              go_loopw [17] (fun kv wx => ∃ (k : Nat), k ≤ nn ∧ kv = .int .i64 k ∧ Ext [] w9 wx) (fun kv _ => nn - (intOf kv).toNat)
              case atStart => exact ⟨0, Nat.zero_le _, rfl, Ext.refl _ _⟩
              case round =>
                obtain ⟨k, hkn, rfl, hex⟩ := hrel
                have hx9 := E9.out.trans hex (by simp)
                by_cases hk : k < nn
                · have d2 : decide (k < nn) = true := decide_eq_true hk
                  obtain ⟨z, hz⟩ : ∃ z, ns[k]? = some z := ⟨_, List.getElem?_eq_getElem (by rw [HNL.out]; exact hk)⟩
                  obtain ⟨NB, no, rfl, hNB, hzc⟩ := HAT.out k z hz
                  have hzs := HSZ.out z (List.mem_of_getElem? hz)
                  have c1 := A7.out z hzs; have c2 := A8.out z hzs
                  generalize p3 z = pz at c1 c2
                  have kg : ∀ W, Ext [] wc.drew W → W.cell? ⟨B, 1, none⟩ = some (.string eo) ∧ W.cell? ⟨B, 1 + 1, none⟩ = some (.string eu) ∧ W.cell? ⟨B, 1 + 2, none⟩ = some (.bool ec) ∧ W.cell? ⟨NB, no + k, none⟩ = some (.string z) := fun W hW => ⟨(KF.out W hW).1, (KF.out W hW).2.1, (KF.out W hW).2.2.1, (hW.cell (p := ⟨NB, no + k, none⟩) hNB (by simp)).trans hzc⟩
                  have hxd := hx9.drew
                  have k1 := (kg _ hxd).1; have k2 := (kg _ hxd).2.1; have k3 := (kg _ hxd).2.2.1; have k4 := (kg _ hxd).2.2.2
                  have q1 : (0 : Int) ≤ (k : Int) := by omega
                  have q2 : (k : Int) < (nn : Int) := by omega
                  have KG := Lib.hid kg; have C1 := Lib.hid c1; have C2 := Lib.hid c2; have HXD := Lib.hid hxd; have HEX := Lib.hid hex
                  clear kg c1 c2 hxd hx9 hex hz hzc
                  go_wp2_with fail
                  refine start_ (n := 21) (S := fun w' => w'.cell? ⟨B, 1, none⟩ = some (.string eo) ∧ w'.cell? ⟨B, 1 + 1, none⟩ = some (.string eu) ∧ w'.cell? ⟨B, 1 + 2, none⟩ = some (.bool ec) ∧ w'.cell? ⟨NB, no + k, none⟩ = some (.string z) ∧ (0 : Int) ≤ (k : Int) ∧ (k : Int) < (nn : Int)) (ds := []) #[false, false, false, false, false, false, false, false, false, false, false, false, false, false, false, false, false, false, false, false, false] (by kernel_rfl) rfl rfl ⟨k1, k2, k3, k4, q1, q2⟩ (fun hHeld => ?_)
                  refine pure_ (i := 0) (N := some 152) (v := ?_) (a' := ?_) #[true, false, false, false, false, false, false, false, false, false, false, false, false, false, false, false, false, false, false, false, false] rfl rfl (by kernel_rfl) (fun _ _ _ h => h) (Or.inl ⟨by rfl, ?_⟩) ?_ ?_
                  rotate_left
                  · intro w'
                    go_simp
                    with_reducible rfl
                  rotate_left
                  · simp only [Act.put, List.setIfInBounds_toArray, List.set_cons_zero, List.set_cons_succ, i64_w, i32_w]
                    rfl
                  refine pure_ (i := 1) (N := some 153) (v := ?_) (a' := ?_) #[true, true, false, false, false, false, false, false, false, false, false, false, false, false, false, false, false, false, false, false, false] rfl rfl (by kernel_rfl) (fun _ _ _ h => h) (Or.inl ⟨by rfl, ?_⟩) ?_ ?_
                  rotate_left
                  · intro w'
                    go_simp
                    with_reducible rfl
                  rotate_left
                  · simp only [Act.put, List.setIfInBounds_toArray, List.set_cons_zero, List.set_cons_succ, i64_w, i32_w]
                    rfl
                  refine pure_ (i := 2) (N := some 154) (v := ?_) (a' := ?_) #[true, true, true, false, false, false, false, false, false, false, false, false, false, false, false, false, false, false, false, false, false] rfl rfl (by kernel_rfl) (fun _ _ _ h => h) (Or.inl ⟨by rfl, ?_⟩) ?_ ?_
                  rotate_left
                  · intro w'
                    go_simp
                    with_reducible rfl
                  rotate_left
                  · simp only [Act.put, List.setIfInBounds_toArray, List.set_cons_zero, List.set_cons_succ, i64_w, i32_w]
                    rfl
                  refine pure_ (i := 4) (N := some 156) (v := ?_) (a' := ?_) #[true, true, true, false, true, false, false, false, false, false, false, false, false, false, false, false, false, false, false, false, false] rfl rfl (by kernel_rfl) (fun _ _ _ h => h) (Or.inl ⟨by rfl, ?_⟩) ?_ ?_
                  rotate_left
                  · intro w'
                    go_simp
                    with_reducible rfl
                  rotate_left
                  · simp only [Act.put, List.setIfInBounds_toArray, List.set_cons_zero, List.set_cons_succ, i64_w, i32_w]
                    rfl
                  refine pure_ (i := 5) (N := some 157) (v := ?_) (a' := ?_) #[true, true, true, false, true, true, false, false, false, false, false, false, false, false, false, false, false, false, false, false, false] rfl rfl (by kernel_rfl) (fun _ _ _ h => h) (Or.inl ⟨by rfl, ?_⟩) ?_ ?_
                  rotate_left
                  · intro w'
                    go_simp
                    with_reducible rfl
                  rotate_left
                  · simp only [Act.put, List.setIfInBounds_toArray, List.set_cons_zero, List.set_cons_succ, i64_w, i32_w]
                    rfl
                  refine pure_ (i := 6) (N := some 158) (v := ?_) (a' := ?_) #[true, true, true, false, true, true, true, false, false, false, false, false, false, false, false, false, false, false, false, false, false] rfl rfl (by kernel_rfl) (fun _ _ _ h => h) (Or.inl ⟨by rfl, ?_⟩) ?_ ?_
                  rotate_left
                  · intro w'
                    go_simp
                    with_reducible rfl
                  rotate_left
                  · simp only [Act.put, List.setIfInBounds_toArray, List.set_cons_zero, List.set_cons_succ, i64_w, i32_w]
                    rfl
                  refine pure_ (i := 8) (N := some 160) (v := ?_) (a' := ?_) #[true, true, true, false, true, true, true, false, true, false, false, false, false, false, false, false, false, false, false, false, false] rfl rfl (by kernel_rfl) (fun _ _ _ h => h) (Or.inl ⟨by rfl, ?_⟩) ?_ ?_
                  rotate_left
                  · intro w'
                    go_simp
                    with_reducible rfl
                  rotate_left
                  · simp only [Act.put, List.setIfInBounds_toArray, List.set_cons_zero, List.set_cons_succ, i64_w, i32_w]
                    rfl
                  refine pure_ (i := 10) (N := some 162) (v := ?_) (a' := ?_) #[true, true, true, false, true, true, true, false, true, false, true, false, false, false, false, false, false, false, false, false, false] rfl rfl (by kernel_rfl) (fun _ _ _ h => h) (Or.inl ⟨by rfl, ?_⟩) ?_ ?_
                  rotate_left
                  · intro w'
                    go_simp
                    with_reducible rfl
                  rotate_left
                  · simp only [Act.put, List.setIfInBounds_toArray, List.set_cons_zero, List.set_cons_succ, i64_w, i32_w]
                    rfl
                  refine pure_ (i := 11) (N := some 163) (v := ?_) (a' := ?_) #[true, true, true, false, true, true, true, false, true, false, true, true, false, false, false, false, false, false, false, false, false] rfl rfl (by kernel_rfl) (fun _ _ _ h => h) (Or.inl ⟨by rfl, ?_⟩) ?_ ?_
                  rotate_left
                  · intro w'
                    go_simp
                    with_reducible rfl
                  rotate_left
                  · simp only [Act.put, List.setIfInBounds_toArray, List.set_cons_zero, List.set_cons_succ, i64_w, i32_w]
                    rfl
                  refine pure_ (i := 12) (N := some 164) (v := ?_) (a' := ?_) #[true, true, true, false, true, true, true, false, true, false, true, true, true, false, false, false, false, false, false, false, false] rfl rfl (by kernel_rfl) (fun _ _ _ h => h) (Or.inl ⟨by rfl, ?_⟩) ?_ ?_
                  rotate_left
                  · intro w'
                    go_simp
                    with_reducible rfl
                  rotate_left
                  · simp only [Act.put, List.setIfInBounds_toArray, List.set_cons_zero, List.set_cons_succ, i64_w, i32_w]
                    rfl
                  refine pure_ (i := 14) (N := some 166) (v := ?_) (a' := ?_) #[true, true, true, false, true, true, true, false, true, false, true, true, true, false, true, false, false, false, false, false, false] rfl rfl (by kernel_rfl) (fun _ _ _ h => h) (Or.inl ⟨by rfl, ?_⟩) ?_ ?_
                  rotate_left
                  · intro w'
                    go_simp
                    with_reducible rfl
                  rotate_left
                  · simp only [Act.put, List.setIfInBounds_toArray, List.set_cons_zero, List.set_cons_succ, i64_w, i32_w]
                    rfl
                  refine pure_ (i := 15) (N := some 167) (v := ?_) (a' := ?_) #[true, true, true, false, true, true, true, false, true, false, true, true, true, false, true, true, false, false, false, false, false] rfl rfl (by kernel_rfl) (fun _ _ _ h => h) (Or.inl ⟨by rfl, ?_⟩) ?_ ?_
                  rotate_left
                  · intro w'
                    go_simp
                    with_reducible rfl
                  rotate_left
                  · simp only [Act.put, List.setIfInBounds_toArray, List.set_cons_zero, List.set_cons_succ, i64_w, i32_w]
                    rfl
                  refine pure_ (i := 16) (N := some 168) (v := ?_) (a' := ?_) #[true, true, true, false, true, true, true, false, true, false, true, true, true, false, true, true, true, false, false, false, false] rfl rfl (by kernel_rfl) (fun _ _ _ h => h) (Or.inl ⟨by rfl, ?_⟩) ?_ ?_
                  rotate_left
                  · intro w'
                    go_simp
                    with_reducible rfl
                  rotate_left
                  · simp only [Act.put, List.setIfInBounds_toArray, List.set_cons_zero, List.set_cons_succ, i64_w, i32_w]
                    rfl
                  refine pure_ (i := 18) (N := some 170) (v := ?_) (a' := ?_) #[true, true, true, false, true, true, true, false, true, false, true, true, true, false, true, true, true, false, true, false, false] rfl rfl (by kernel_rfl) (fun _ _ _ h => h) (Or.inl ⟨by rfl, ?_⟩) ?_ ?_
                  rotate_left
                  · intro w'
                    go_simp
                    with_reducible rfl
                  rotate_left
                  · simp only [Act.put, List.setIfInBounds_toArray, List.set_cons_zero, List.set_cons_succ, i64_w, i32_w]
                    rfl
                  refine take_ (i := 3) (N := some 155) (v := ?_) (a' := ?_) #[true, true, true, true, true, true, true, false, true, false, true, true, true, false, true, true, true, false, true, false, false] rfl rfl (by kernel_rfl) (fun _ _ _ h => h) (Or.inl ⟨by rfl, ?_⟩) hHeld ?_ ?_
                  rotate_left
                  · rintro w' ⟨s0, s1, s2, s3, s4, s5⟩
                    go_simp
                    with_reducible rfl
                  rotate_left
                  · simp only [Act.put, List.setIfInBounds_toArray, List.set_cons_zero, List.set_cons_succ, i64_w, i32_w]
                    rfl
                  refine take_ (i := 7) (N := some 159) (v := ?_) (a' := ?_) #[true, true, true, true, true, true, true, true, true, false, true, true, true, false, true, true, true, false, true, false, false] rfl rfl (by kernel_rfl) (fun _ _ _ h => h) (Or.inl ⟨by rfl, ?_⟩) hHeld ?_ ?_
                  rotate_left
                  · rintro w' ⟨s0, s1, s2, s3, s4, s5⟩
                    go_simp
                    with_reducible rfl
                  rotate_left
                  · simp only [Act.put, List.setIfInBounds_toArray, List.set_cons_zero, List.set_cons_succ, i64_w, i32_w]
                    rfl
                  refine take_ (i := 13) (N := some 165) (v := ?_) (a' := ?_) #[true, true, true, true, true, true, true, true, true, false, true, true, true, true, true, true, true, false, true, false, false] rfl rfl (by kernel_rfl) (fun _ _ _ h => h) (Or.inl ⟨by rfl, ?_⟩) hHeld ?_ ?_
                  rotate_left
                  · rintro w' ⟨s0, s1, s2, s3, s4, s5⟩
                    go_simp
                    with_reducible rfl
                  rotate_left
                  · simp only [Act.put, List.setIfInBounds_toArray, List.set_cons_zero, List.set_cons_succ, i64_w, i32_w]
                    rfl
                  refine take_ (i := 17) (N := some 169) (v := ?_) (a' := ?_) #[true, true, true, true, true, true, true, true, true, false, true, true, true, true, true, true, true, true, true, false, false] rfl rfl (by kernel_rfl) (fun _ _ _ h => h) (Or.inl ⟨by rfl, ?_⟩) hHeld ?_ ?_
                  rotate_left
                  · rintro w' ⟨s0, s1, s2, s3, s4, s5⟩
                    go_simp
                    with_reducible rfl
                  rotate_left
                  · simp only [Act.put, List.setIfInBounds_toArray, List.set_cons_zero, List.set_cons_succ, i64_w, i32_w]
                    rfl
                  refine one_ (i := 9) (N := some 161) #[true, true, true, true, true, true, true, true, true, true, true, true, true, true, true, true, true, true, true, false, false] rfl rfl (by kernel_rfl) (by decide) (fun K hK => ?_)
                  refine goes_ Try.func21 (by kernel_rfl) rfl #[.pointer (some ⟨b, 0, none⟩), .agg #[.string eo, .string eu, .bool ec], .string z, .int .u64 now] (by rfl) rfl rfl (by simp only [List.map_toArray, List.map_cons, List.map_nil]; rfl) ?_
                  with_reducible refine (C1.out _ HXD.out).mono ?_
                  rintro e w10 ⟨rfl, f10⟩
                  refine ⟨_, rfl, ?_⟩
                  have e10 := HXD.out.trans f10 (by simp)
                  refine hK.out _ _ ⟨(KG.out _ e10).1, (KG.out _ e10).2.1, (KG.out _ e10).2.2.1, (KG.out _ e10).2.2.2, q1, q2⟩ (fun hHeld => ?_)
                  clear hK K
                  refine norm_ (a' := ?_) ?_ ?_
                  rotate_left
                  · show Act.put _ (some 161) _ = _
                    simp only [Act.put, List.setIfInBounds_toArray, List.set_cons_zero, List.set_cons_succ, i64_w, i32_w]
                    rfl
                  refine one_ (i := 19) (N := some 171) #[true, true, true, true, true, true, true, true, true, true, true, true, true, true, true, true, true, true, true, true, false] rfl rfl (by kernel_rfl) (by decide) (fun K hK => ?_)
                  refine goes_ Try.func41 (by kernel_rfl) rfl #[.pointer (some ⟨r, 0, none⟩), .agg #[.string eo, .string eu, .bool ec], .string z, .int .u64 now] (by rfl) rfl rfl (by simp only [List.map_toArray, List.map_cons, List.map_nil]; rfl) ?_
                  with_reducible refine (C2.out _ e10).mono ?_
                  rintro e w11 ⟨rfl, f11⟩
                  refine ⟨_, rfl, ?_⟩
                  have e11 := e10.trans f11 (by simp)
                  refine hK.out _ _ ⟨(KG.out _ e11).1, (KG.out _ e11).2.1, (KG.out _ e11).2.2.1, (KG.out _ e11).2.2.2, q1, q2⟩ (fun hHeld => ?_)
                  clear hK K
                  refine norm_ (a' := ?_) ?_ ?_
                  rotate_left
                  · show Act.put _ (some 171) _ = _
                    simp only [Act.put, List.setIfInBounds_toArray, List.set_cons_zero, List.set_cons_succ, i64_w, i32_w]
                    rfl
                  refine pure_ (i := 20) (N := some 172) (v := ?_) (a' := ?_) #[true, true, true, true, true, true, true, true, true, true, true, true, true, true, true, true, true, true, true, true, true] rfl rfl (by kernel_rfl) (fun _ _ _ h => h) (Or.inl ⟨by rfl, ?_⟩) ?_ ?_
                  rotate_left
                  · intro w'
                    go_simp
                    with_reducible rfl
                  rotate_left
                  · simp only [Act.put, List.setIfInBounds_toArray, List.set_cons_zero, List.set_cons_succ, i64_w, i32_w]
                    rfl
                  refine done_ (by kernel_rfl) ?_
                  go_wp2_with fail
                  exact ⟨⟨k + 1, by omega, by go_num, ((HEX.out.drew).trans f10 (by simp)).trans f11 (by simp)⟩, by simp [intOf]; omega⟩
                · have d2 : decide (k < nn) = false := decide_eq_false hk
                  have HX9 := Lib.hid hx9
                  clear hx9 hex
                  go_wp2_with fail
                  have xf := Ext.of_drew HX9.out
                  exact ⟨⟨i + 1, S', R', L', by omega, by go_num, HWc.out.keep0 xf, HWRc.out.keep0 xf, HOWc.out.quiet xf, by have := HL.out; omega, HXc.out.keep xf (by simp), HOKc.out, fun x hx => (HSBc.out x hx).2, fun x hx => (HRBc.out x hx).2⟩, by simp [intOf]; omega⟩
        · have d1 : decide (i < ln) = false := decide_eq_false hi
          have nsl := fun W (hW : Ext [] wr.drew W) => HNS.out.keep ((ow.ext.drew).trans hW (by simp))
          have hdb : CO most wr.drew b S xs := hw.keep0 (Ext.refl [] wr).drew
          have hdr : CR most wr.drew r R xs := hwr.keep0 (Ext.refl [] wr).drew
          have a1 : ∀ W, Ext [] wr.drew W → Calls Try.prog 39 #[.pointer (some ⟨b, 0, none⟩), .agg #[.string co, .string cu, .bool cr], .string m, .slice na nn nc, .int .u64 now] W fun e w' => e = .returned (.bool (covM xs ⟨co, cu, cr⟩ m ns now)) ∧ Ext [] W w' := fun W hW => co_covers most b S xs ⟨co, cu, cr⟩ m hm na nn nc ns HSZ.out hnn now (by omega) W (hdb.keep0 hW) (nsl W hW)
          have a2 : ∀ W, Ext [] wr.drew W → Calls Try.prog 40 #[.pointer (some ⟨r, 0, none⟩), .agg #[.string co, .string cu, .bool cr], .string m, .slice na nn nc, .int .u64 now] W fun e w' => e = .returned (.bool (covM xs ⟨co, cu, cr⟩ m ns now)) ∧ Ext [] W w' := fun W hW => cr_covers most r R xs ⟨co, cu, cr⟩ m hm na nn nc ns HSZ.out hnn now (by omega) hki.out W (hdr.keep0 hW) (nsl W hW)
          generalize covM xs ⟨co, cu, cr⟩ m ns now = p1 at a1 a2
          have hXd := hXw.drew
          have kx : ∀ W, Ext [] wr.drew W → W.cell? ⟨X, 0, none⟩ = some (.string co) ∧ W.cell? ⟨X, 1, none⟩ = some (.string cu) ∧ W.cell? ⟨X, 2, none⟩ = some (.bool cr) := fun W hW => by
            have := hXd.keep hW (by simp)
            exact ⟨this.cell 0, this.cell 1, this.cell 2⟩
          have q0 := (kx _ (Ext.refl _ _)).1; have q1 := (kx _ (Ext.refl _ _)).2.1; have q2 := (kx _ (Ext.refl _ _)).2.2
          have A1 := Lib.hid a1; have A2 := Lib.hid a2; have KX := Lib.hid kx; have HOW := Lib.hid ow
          clear a1 a2 kx hXd hXw hw hwr ow hdb hdr nsl hSX hRX hxl hki
          go_wp2_with fail
          refine start_ (n := 17) (S := fun w' => w'.cell? ⟨X, 0, none⟩ = some (.string co) ∧ w'.cell? ⟨X, 1, none⟩ = some (.string cu) ∧ w'.cell? ⟨X, 2, none⟩ = some (.bool cr)) (ds := []) #[false, false, false, false, false, false, false, false, false, false, false, false, false, false, false, false, false] (by kernel_rfl) rfl rfl ⟨q0, q1, q2⟩ (fun hHeld => ?_)
          refine pure_ (i := 0) (N := some 173) (v := ?_) (a' := ?_) #[true, false, false, false, false, false, false, false, false, false, false, false, false, false, false, false, false] rfl rfl (by kernel_rfl) (fun _ _ _ h => h) (Or.inl ⟨by rfl, ?_⟩) ?_ ?_
          rotate_left
          · intro w'
            go_simp
            with_reducible rfl
          rotate_left
          · simp only [Act.put, List.setIfInBounds_toArray, List.set_cons_zero, List.set_cons_succ, i64_w, i32_w]
            rfl
          refine pure_ (i := 2) (N := some 175) (v := ?_) (a' := ?_) #[true, false, true, false, false, false, false, false, false, false, false, false, false, false, false, false, false] rfl rfl (by kernel_rfl) (fun _ _ _ h => h) (Or.inl ⟨by rfl, ?_⟩) ?_ ?_
          rotate_left
          · intro w'
            go_simp
            with_reducible rfl
          rotate_left
          · simp only [Act.put, List.setIfInBounds_toArray, List.set_cons_zero, List.set_cons_succ, i64_w, i32_w]
            rfl
          refine pure_ (i := 3) (N := some 176) (v := ?_) (a' := ?_) #[true, false, true, true, false, false, false, false, false, false, false, false, false, false, false, false, false] rfl rfl (by kernel_rfl) (fun _ _ _ h => h) (Or.inl ⟨by rfl, ?_⟩) ?_ ?_
          rotate_left
          · intro w'
            go_simp
            with_reducible rfl
          rotate_left
          · simp only [Act.put, List.setIfInBounds_toArray, List.set_cons_zero, List.set_cons_succ, i64_w, i32_w]
            rfl
          refine pure_ (i := 4) (N := some 177) (v := ?_) (a' := ?_) #[true, false, true, true, true, false, false, false, false, false, false, false, false, false, false, false, false] rfl rfl (by kernel_rfl) (fun _ _ _ h => h) (Or.inl ⟨by rfl, ?_⟩) ?_ ?_
          rotate_left
          · intro w'
            go_simp
            with_reducible rfl
          rotate_left
          · simp only [Act.put, List.setIfInBounds_toArray, List.set_cons_zero, List.set_cons_succ, i64_w, i32_w]
            rfl
          refine pure_ (i := 6) (N := some 179) (v := ?_) (a' := ?_) #[true, false, true, true, true, false, true, false, false, false, false, false, false, false, false, false, false] rfl rfl (by kernel_rfl) (fun _ _ _ h => h) (Or.inl ⟨by rfl, ?_⟩) ?_ ?_
          rotate_left
          · intro w'
            go_simp
            with_reducible rfl
          rotate_left
          · simp only [Act.put, List.setIfInBounds_toArray, List.set_cons_zero, List.set_cons_succ, i64_w, i32_w]
            rfl
          refine pure_ (i := 8) (N := some 181) (v := ?_) (a' := ?_) #[true, false, true, true, true, false, true, false, true, false, false, false, false, false, false, false, false] rfl rfl (by kernel_rfl) (fun _ _ _ h => h) (Or.inl ⟨by rfl, ?_⟩) ?_ ?_
          rotate_left
          · intro w'
            go_simp
            with_reducible rfl
          rotate_left
          · simp only [Act.put, List.setIfInBounds_toArray, List.set_cons_zero, List.set_cons_succ, i64_w, i32_w]
            rfl
          refine pure_ (i := 9) (N := some 182) (v := ?_) (a' := ?_) #[true, false, true, true, true, false, true, false, true, true, false, false, false, false, false, false, false] rfl rfl (by kernel_rfl) (fun _ _ _ h => h) (Or.inl ⟨by rfl, ?_⟩) ?_ ?_
          rotate_left
          · intro w'
            go_simp
            with_reducible rfl
          rotate_left
          · simp only [Act.put, List.setIfInBounds_toArray, List.set_cons_zero, List.set_cons_succ, i64_w, i32_w]
            rfl
          refine pure_ (i := 10) (N := some 183) (v := ?_) (a' := ?_) #[true, false, true, true, true, false, true, false, true, true, true, false, false, false, false, false, false] rfl rfl (by kernel_rfl) (fun _ _ _ h => h) (Or.inl ⟨by rfl, ?_⟩) ?_ ?_
          rotate_left
          · intro w'
            go_simp
            with_reducible rfl
          rotate_left
          · simp only [Act.put, List.setIfInBounds_toArray, List.set_cons_zero, List.set_cons_succ, i64_w, i32_w]
            rfl
          refine take_ (i := 1) (N := some 174) (v := ?_) (a' := ?_) #[true, true, true, true, true, false, true, false, true, true, true, false, false, false, false, false, false] rfl rfl (by kernel_rfl) (fun _ _ _ h => h) (Or.inl ⟨by rfl, ?_⟩) hHeld ?_ ?_
          rotate_left
          · rintro w' ⟨s0, s1, s2⟩
            go_simp
            with_reducible rfl
          rotate_left
          · simp only [Act.put, List.setIfInBounds_toArray, List.set_cons_zero, List.set_cons_succ, i64_w, i32_w]
            rfl
          refine take_ (i := 7) (N := some 180) (v := ?_) (a' := ?_) #[true, true, true, true, true, false, true, true, true, true, true, false, false, false, false, false, false] rfl rfl (by kernel_rfl) (fun _ _ _ h => h) (Or.inl ⟨by rfl, ?_⟩) hHeld ?_ ?_
          rotate_left
          · rintro w' ⟨s0, s1, s2⟩
            go_simp
            with_reducible rfl
          rotate_left
          · simp only [Act.put, List.setIfInBounds_toArray, List.set_cons_zero, List.set_cons_succ, i64_w, i32_w]
            rfl
          refine one_ (i := 5) (N := some 178) #[true, true, true, true, true, true, true, true, true, true, true, false, false, false, false, false, false] rfl rfl (by kernel_rfl) (by decide) (fun K hK => ?_)
          refine goes_ Try.func39 (by kernel_rfl) rfl #[.pointer (some ⟨b, 0, none⟩), .agg #[.string co, .string cu, .bool cr], .string m, .slice na nn nc, .int .u64 now] (by rfl) rfl rfl (by simp only [List.map_toArray, List.map_cons, List.map_nil]; rfl) ?_
          with_reducible refine (A1.out _ (Ext.refl [] wr.drew)).mono ?_
          rintro e w3 ⟨rfl, f3⟩
          refine ⟨_, rfl, ?_⟩
          have e3 := (Ext.refl [] wr.drew).trans f3 (by simp)
          refine hK.out _ _ ⟨(KX.out _ e3).1, (KX.out _ e3).2.1, (KX.out _ e3).2.2⟩ (fun hHeld => ?_)
          clear hK K
          refine norm_ (a' := ?_) ?_ ?_
          rotate_left
          · show Act.put _ (some 178) _ = _
            simp only [Act.put, List.setIfInBounds_toArray, List.set_cons_zero, List.set_cons_succ, i64_w, i32_w]
            rfl
          refine one_ (i := 11) (N := some 184) #[true, true, true, true, true, true, true, true, true, true, true, true, false, false, false, false, false] rfl rfl (by kernel_rfl) (by decide) (fun K hK => ?_)
          refine goes_ Try.func40 (by kernel_rfl) rfl #[.pointer (some ⟨r, 0, none⟩), .agg #[.string co, .string cu, .bool cr], .string m, .slice na nn nc, .int .u64 now] (by rfl) rfl rfl (by simp only [List.map_toArray, List.map_cons, List.map_nil]; rfl) ?_
          with_reducible refine (A2.out _ e3).mono ?_
          rintro e w4 ⟨rfl, f4⟩
          refine ⟨_, rfl, ?_⟩
          have e4 := e3.trans f4 (by simp)
          refine hK.out _ _ ⟨(KX.out _ e4).1, (KX.out _ e4).2.1, (KX.out _ e4).2.2⟩ (fun hHeld => ?_)
          clear hK K
          refine norm_ (a' := ?_) ?_ ?_
          rotate_left
          · show Act.put _ (some 184) _ = _
            simp only [Act.put, List.setIfInBounds_toArray, List.set_cons_zero, List.set_cons_succ, i64_w, i32_w]
            rfl
          refine pure_ (i := 12) (N := some 185) (v := ?_) (a' := ?_) #[true, true, true, true, true, true, true, true, true, true, true, true, true, false, false, false, false] rfl rfl (by kernel_rfl) (fun _ _ _ h => h) (Or.inl ⟨by rfl, ?_⟩) ?_ ?_
          rotate_left
          · intro w'
            go_simp
            with_reducible rfl
          rotate_left
          · simp only [Act.put, List.setIfInBounds_toArray, List.set_cons_zero, List.set_cons_succ, i64_w, i32_w]
            rfl
          refine pure_ (i := 13) (N := some 186) (v := ?_) (a' := ?_) #[true, true, true, true, true, true, true, true, true, true, true, true, true, true, false, false, false] rfl rfl (by kernel_rfl) (fun _ _ _ h => h) (Or.inl ⟨by rfl, ?_⟩) ?_ ?_
          rotate_left
          · intro w'
            go_simp
            with_reducible rfl
          rotate_left
          · simp only [Act.put, List.setIfInBounds_toArray, List.set_cons_zero, List.set_cons_succ, i64_w, i32_w]
            rfl
          refine one_ (i := 14) (N := some 187) #[true, true, true, true, true, true, true, true, true, true, true, true, true, true, true, false, false] rfl rfl (by kernel_rfl) (by decide) (fun K hK => ?_)
          refine goes_ Try.func12 (by kernel_rfl) rfl #[] (by rfl) rfl rfl (by simp only [List.map_toArray, List.map_nil]) ?_
          with_reducible refine (awakeC_any _).mono ?_
          rintro e w11 ⟨rfl, f11⟩
          refine ⟨_, rfl, ?_⟩
          have e11 := e4.trans f11 (by simp)
          refine hK.out _ _ ⟨(KX.out _ e11).1, (KX.out _ e11).2.1, (KX.out _ e11).2.2⟩ (fun hHeld => ?_)
          clear hK K
          refine norm_ (a' := ?_) ?_ ?_
          rotate_left
          · show Act.put _ (some 187) _ = _
            simp only [Act.put, List.setIfInBounds_toArray, List.set_cons_zero, List.set_cons_succ, i64_w, i32_w]
            rfl
          refine pure_ (i := 15) (N := some 188) (v := ?_) (a' := ?_) #[true, true, true, true, true, true, true, true, true, true, true, true, true, true, true, true, false] rfl rfl (by kernel_rfl) (fun _ _ _ h => h) (Or.inl ⟨by rfl, ?_⟩) ?_ ?_
          rotate_left
          · intro w'
            go_simp
            with_reducible rfl
          rotate_left
          · simp only [Act.put, List.setIfInBounds_toArray, List.set_cons_zero, List.set_cons_succ, i64_w, i32_w]
            rfl
          refine pure_ (i := 16) (N := some 12) (v := ?_) (a' := ?_) #[true, true, true, true, true, true, true, true, true, true, true, true, true, true, true, true, true] rfl rfl (by kernel_rfl) (fun _ _ _ h => h) (Or.inl ⟨by rfl, ?_⟩) ?_ ?_
          rotate_left
          · intro w'
            go_simp
            with_reducible rfl
          rotate_left
          · simp only [Act.put, List.setIfInBounds_toArray, List.set_cons_zero, List.set_cons_succ, i64_w, i32_w]
            rfl
          refine done_ (by kernel_rfl) ?_
          go_wp2_with fail
          go_ret
          exact ⟨rfl, (HOW.out.ext.drew).trans e11 (by simp)⟩
end Go.Proofs.Ytkbjpackijdnkaa
