/- SharePlays: its walk. -/
import Derived.Test.YtkbjpackijdnkaaSharePlaysR
import Derived.Test.YtkbjpackijdnkaaShPure
import Derived.Test.YtkbjpackijdnkaaShareWants
import Derived.Test.YtkbjpackijdnkaaCaPure
import Derived.Test.YtkbjpackijdnkaaIntsAny
import Derived.Test.YtkbjpackijdnkaaLow
import Derived.Deep.CutBlock
import Derived.Deep.DeepCutAuto
namespace Go.Proofs.Ytkbjpackijdnkaa
open Go.Joins Go.ChangeShapes Go.WideShapes Go.RowKit Go.Deep Go.Proofs.YtkbjpackijdnkaaW.PrintLast
set_option linter.unusedVariables false
set_option linter.unusedSimpArgs false

structure DeedP where
  op : Int
  id : Int
  w : Wt
def encDP (d : DeedP) : List Value := [.int .i64 d.op, .int .i64 d.id, .string d.w.org, .string d.w.url, .bool d.w.creds, .string d.w.meth, .string d.w.names]

set_option maxRecDepth 100000 in
theorem open_deedP {H : Type} {enc : TypeId × Value → H} {W : World} {a : Option Addr} {n c : Nat} {d : DataW H} {p : List MemPlace} (h : DataW.Trod enc Try.prog W 0 (fun _ => true) true 75 (.slice a n c) d p) :
    ∃ zs : List DeedP, Slc encDP 7 W a n zs ∧ ∀ z ∈ zs, (Lit.int .i64 z.id).wf = true := by
  refine Slc.open_cellsK (by decide) Try.underlying75 (by kernel_rfl) (fun cs m y hl h => ?_) h
  obtain ⟨ys, n, _, _, _, hlen, hg⟩ := DataW.trod_struct Try.underlying79 h
  have k3 : Try.prog.cellsOf 3 = 1 := by kernel_rfl
  have k44 : Try.prog.cellsOf 44 = 5 := by kernel_rfl
  match cs, hl with
  | [c0, c1, c2, c3, c4, c5, c6], _ =>
    match ys, hlen with
    | [y0, y1, y2], _ =>
      have g0 : DataW.trod enc Try.prog W 0 (fun _ => true) true n 3 (List.take (Try.prog.cellsOf 3) [c0, c1, c2, c3, c4, c5, c6]) = some y0 := hg 0 _ rfl
      have g1 : DataW.trod enc Try.prog W 0 (fun _ => true) true n 3 (List.take (Try.prog.cellsOf 3) [c1, c2, c3, c4, c5, c6]) = some y1 := hg 1 _ rfl
      have g2 : DataW.trod enc Try.prog W 0 (fun _ => true) true n 44 (List.take (Try.prog.cellsOf 44) [c2, c3, c4, c5, c6]) = some y2 := hg 2 _ rfl
      rw [k3] at g0 g1; rw [k44] at g2
      obtain ⟨a0, e0, -⟩ := DataW.trod_int Try.underlying3 g0
      obtain ⟨a1, e1, -, w1⟩ := DataW.trod_int Try.underlying3 g1
      obtain ⟨a2, e2, -⟩ := want_cells _ _ _ (by rfl) g2
      simp at e0 e1
      simp [encW] at e2
      obtain ⟨f1, f2, f3, f4, f5⟩ := e2
      exact ⟨⟨a0, a1, a2⟩, by simp [encDP, e0, e1, f1, f2, f3, f4, f5], w1⟩

/-- What holds in the midst of a round. -/
def AfterP (w : World) (z : DeedP) (b r B j : Nat) (wx : World) : Prop :=
  Blk wx B (encDP z).toArray 79 ∧ ∃ S R last M, SH wx b S last M ∧ RH wx r R last M ∧ Own2 w wx S R ∧ ShInv (j + 1) last M ∧ (∀ x ∈ S, x ≠ B) ∧ (∀ x ∈ R, x ≠ B)
theorem ShInv.inv {i : Nat} {last : Int} {M : List Sk} (h : ShInv i last M) : InvS M := fun s hs => ⟨(h.each s hs).1, ids_each h.ids hs⟩

set_option maxHeartbeats 16000000 in
set_option maxRecDepth 100000 in
theorem sharePlays_walk (w : World) (la : Option Addr) (ln lc : Nat) (ds : List DeedP) (hs : Slc encDP 7 w la ln ds) (_hg : ∀ z ∈ ds, (Lit.int .i64 z.id).wf = true) (aid : Int) (_ha : (Lit.int .i64 aid).wf = true) (pre : Int) (_hp : (Lit.int .i64 pre).wf = true) :
    Calls Try.prog 10 #[.slice la ln lc, .int .i64 aid, .int .i64 pre] w fun e w' => e = .returned (.bool true) ∧ Ext [] w w' := by
  clear _hg _ha _hp
  have HS := Lib.hid hs
  clear hs
  by_cases h150 : 150 < ln
  · have d0 : decide (150 < (ln : Int)) = true := decide_eq_true (by omega)
    go_enter Try.func10, Try.ntmps10
    go_wp2_with fail
    refine (awakeP_any _).mono ?_
    rintro e w1 ⟨rfl, e1⟩
    go_wp2_with fail
    go_ret
    exact ⟨rfl, e1⟩
  have d0 : decide (150 < (ln : Int)) = false := decide_eq_false (by omega)
  have hln : ln ≤ 150 := by omega
  clear h150
  go_enter Try.func10, Try.ntmps10
  go_wp2_with fail
  refine (sh_new w).mono ?_
  rintro e w1 ⟨rfl, h1, x1⟩
  have o1 := Own.start x1 (S := [w.heap.size]) (by simp)
  obtain ⟨b, hb⟩ : ∃ b, w.heap.size = b := ⟨_, rfl⟩
  rw [hb] at h1 o1
  go_wp2_with fail
  refine (rh_new w1).mono ?_
  rintro e w2 ⟨rfl, h2, x2⟩
  have o2 := Own2.start o1 h1.lt x2 (R := [w1.heap.size]) (by simp)
  have h1 := h1.keep0 x2
  obtain ⟨r, hr⟩ : ∃ r, w1.heap.size = r := ⟨_, rfl⟩
  rw [hr] at h2 o2
  clear x1 x2 o1
  go_wp2_with fail
  clear hb hr
  go_loopw [9] (fun iv wr => ∃ (i : Nat) (S R : List Nat) (last : Int) (M : List Sk), i ≤ ln ∧ iv = .int .i64 i ∧ SH wr b S last M ∧ RH wr r R last M ∧ Own2 w wr S R ∧ Hid (ShInv i last M)) (fun iv _ => ln - (intOf iv).toNat)
  case atStart => exact ⟨0, _, _, 0, [], Nat.zero_le _, rfl, h1, h2, o2, ShInv.nil⟩
  case round =>
    obtain ⟨i, S, R, last, M, hil, rfl, hw, hwr, ow, hinv⟩ := hrel
    clear h1 h2 o2
    by_cases hi : i < ln
    · have d1 : decide (i < ln) = true := decide_eq_true hi
      obtain ⟨z, hz⟩ : ∃ z, ds[i]? = some z := ⟨_, List.getElem?_eq_getElem (by rw [HS.out.1]; exact hi)⟩
      have hza : ∃ ab ao, la = some ⟨ab, ao, none⟩ ∧ ab < w.heap.size ∧ ∀ (j : Nat) (v : Value), (encDP z)[j]? = some v → w.cell? ⟨ab, ao + (i * 7 + j), none⟩ = some v := by
        obtain ⟨ab, ao, g1, g2, g3⟩ := HS.out.2 (by omega)
        exact ⟨ab, ao, g1, g2, g3 i z hz⟩
      obtain ⟨ab, ao, rfl, hab, hcz⟩ := hza
      have hzz : ∀ (j : Nat) (v : Value), (encDP z)[j]? = some v → wr.cell? ⟨ab, ao + (i * 7 + j), none⟩ = some v := fun j v hv => (ow.ext.cell (p := ⟨ab, ao + (i * 7 + j), none⟩) hab (by simp)).trans (hcz j v hv)
      have hz0 := hzz 0 _ rfl; have hz1 := hzz 1 _ rfl; have hz2 := hzz 2 _ rfl; have hz3 := hzz 3 _ rfl; have hz4 := hzz 4 _ rfl; have hz5 := hzz 5 _ rfl; have hz6 := hzz 6 _ rfl
      simp only [Nat.add_zero, ← Nat.add_assoc] at hz0 hz1 hz2 hz3 hz4 hz5 hz6
      have b1 : (0 : Int) ≤ (i : Int) := by omega
      have b2 : (i : Int) < (ln : Int) := by omega
      have hgr := greatW_any z.w (wr.alloc (.cells (encDP z).toArray 79 (0, 0)))
      have hB : Blk (wr.alloc (.cells (encDP z).toArray 79 (0, 0))) wr.heap.size (encDP z).toArray 79 := Blk.new _ _ _
      have e3 : Ext [] wr (wr.alloc (.cells (encDP z).toArray 79 (0, 0))) := (Ext.refl _ _).alloc _
      have hlw := hw.lt; have hlr := hwr.lt
      have hSS : Hid (∀ x ∈ S, x ≠ wr.heap.size) := fun x hx => by have := hlw x hx; omega
      have hRR : Hid (∀ x ∈ R, x ≠ wr.heap.size) := fun x hx => by have := hlr x hx; omega
      obtain ⟨op, id, ⟨xo, xu, xc, xm, xn⟩⟩ := z
      obtain ⟨lv, hlv⟩ : ∃ lv, lv = lowI op 4 := ⟨_, rfl⟩
      have hLow := low_any op 4 (by omega) (by omega)
      rw [← hlv] at hLow
      have hlv4 : lv = 0 ∨ lv = 1 ∨ lv = 2 ∨ lv = 3 := by unfold lowI at hlv; omega
      have HGR := Lib.hid hgr; have HB := Lib.hid hB; have E3 := Lib.hid e3; have HW := Lib.hid hw; have HWR := Lib.hid hwr; have HOW := Lib.hid ow; have HLOW := Lib.hid hLow
      clear hz hab hcz hzz hgr hB e3 hw hwr ow hlw hlr hlv hLow
      unfold encW at HGR
      unfold encDP at HGR HB E3
      generalize greatW ⟨xo, xu, xc, xm, xn⟩ = gb at HGR
      simp only at hz0 hz1 hz2 hz3 hz4 hz5 hz6 HGR HB E3
      cases gb with
      | true =>
        go_wp2_with fail
        refine HGR.out.mono ?_
        rintro e w3 ⟨rfl, x3⟩
        go_wp2_with fail
        refine (awakeP_any _).mono ?_
        rintro e w4 ⟨rfl, x4⟩
        go_wp2_with fail
        go_ret
        exact ⟨rfl, ((HOW.out.ext.trans E3.out (by simp)).trans x3 (by simp)).trans x4 (by simp)⟩
      | false =>
        go_wp2_with fail
        refine HGR.out.mono ?_
        rintro e w3 ⟨rfl, x3⟩
        have x5 := E3.out.trans x3 (by simp)
        have hBx := HB.out.keep x3 (by simp)
        have hw := HW.out.keep0 x5; have hwr := HWR.out.keep0 x5; have ow := HOW.out.quiet x5
        obtain ⟨B, hBe⟩ : ∃ B, wr.heap.size = B := ⟨_, rfl⟩
        rw [hBe] at hBx hSS hRR
        have k0 : w3.cell? ⟨B, 0, none⟩ = some (.int .i64 op) := hBx.cell 0
        have HBx := Lib.hid hBx; have HW2 := Lib.hid hw; have HWR2 := Lib.hid hwr; have HOW2 := Lib.hid ow
        clear hBx hw hwr ow x3 x5 HGR HB E3 HW HWR HOW hz0 hz1 hz2 hz3 hz4 hz5 hz6
        rw [hBe]
        clear hBe
        go_upto_block 2 with ((go_at_call 13; refine (HLOW.out _).mono ?_; rintro e w4 ⟨rfl, rfl⟩))
        go_cut [10] (fun s10 wx => s10 = .pointer (some ⟨B, 0, none⟩) ∧ AfterP w ⟨op, id, ⟨xo, xu, xc, xm, xn⟩⟩ b r B i wx)
        case first =>
          have hBS : B ∉ S := fun h => hSS.out B h rfl
          have hBR : B ∉ R := fun h => hRR.out B h rfl
          have hM := hinv.out.len
          have hok := hinv.out.ok (by omega)
          have hl0 := hinv.out.last0
          have hli := hinv.out.lasti
          rcases (show (lv = 0 ∨ lv = 1) ∨ lv = 2 ∨ lv = 3 by omega) with hlv | rfl | rfl
          · have hgv := sh_join b S last hl0 (by omega) M ⟨xo, xu, xc, xm, xn⟩ id (by omega) hok w3 HW2.out
            have hgr := fun W (hW : RH W r R last M) => rh_join r R last hl0 (by omega) M ⟨xo, xu, xc, xm, xn⟩ id (by omega) hok hinv.out.inv W hW
            have hni := hinv.out.join ⟨xo, xu, xc, xm, xn⟩ id
            unfold JoinP at hgv
            unfold RJoinP at hgr
            unfold encW at hgv hgr
            generalize joinA M last ⟨xo, xu, xc, xm, xn⟩ id = q at hgv hgr hni
            obtain ⟨⟨ja, jb, jc⟩, last', M'⟩ := q
            simp only at hgv hgr hni
            have k1 : w3.cell? ⟨B, 1, none⟩ = some (.int .i64 id) := HBx.out.cell 1
            have k2 : w3.cell? ⟨B, 2, none⟩ = some (.string xo) := HBx.out.cell 2
            have k3 : w3.cell? ⟨B, 2 + 1, none⟩ = some (.string xu) := HBx.out.cell 3
            have k4 : w3.cell? ⟨B, 2 + 2, none⟩ = some (.bool xc) := HBx.out.cell 4
            have k5 : w3.cell? ⟨B, 2 + 3, none⟩ = some (.string xm) := HBx.out.cell 5
            have k6 : w3.cell? ⟨B, 2 + 4, none⟩ = some (.string xn) := HBx.out.cell 6
            have HGV := Lib.hid hgv; have HGR := Lib.hid hgr; have HNI := Lib.hid hni
            clear hgv hgr hni hok
            rcases hlv with rfl | rfl
            all_goals
              go_wp2_with fail
              refine HGV.out.mono ?_
              rintro e w4 ⟨rfl, S4, h4, e4, g4⟩
              have hB4 := HBx.out.keep e4 hBS
              have hR4 := HWR2.out.keep e4 (fun x hx hs => HOW2.out.ne x hs hx)
              clear k1 k2 k3 k4 k5 k6
              have k1 : w4.cell? ⟨B, 1, none⟩ = some (.int .i64 id) := hB4.cell 1
              have k2 : w4.cell? ⟨B, 2, none⟩ = some (.string xo) := hB4.cell 2
              have k3 : w4.cell? ⟨B, 2 + 1, none⟩ = some (.string xu) := hB4.cell 3
              have k4 : w4.cell? ⟨B, 2 + 2, none⟩ = some (.bool xc) := hB4.cell 4
              have k5 : w4.cell? ⟨B, 2 + 3, none⟩ = some (.string xm) := hB4.cell 5
              have k6 : w4.cell? ⟨B, 2 + 4, none⟩ = some (.string xn) := hB4.cell 6
              have HB4 := Lib.hid hB4; have HR4 := Lib.hid hR4; have H4 := Lib.hid h4; have HE4 := Lib.hid e4; have HG4 := Lib.hid g4
              clear hB4 hR4 h4 e4 g4 HGV
              go_wp2_with fail
              refine (HGR.out _ HR4.out).mono ?_
              rintro e w5 ⟨rfl, R5, h5, e5, g5⟩
              have hB5 := HB4.out.keep e5 hBR
              have H5 := Lib.hid h5; have HB5 := Lib.hid hB5; have HE5 := Lib.hid e5; have HG5 := Lib.hid g5
              clear k1 k2 k3 k4 k5 k6 h5 hB5 e5 g5 HGR
              go_wp2_with fail
              go_meet
              have o4 := HOW2.out.left HWR2.out.lt HE4.out HG4.out
              exact ⟨rfl, HB5.out, S4, R5, last', M', H4.out.keep HE5.out (fun x hx hr => o4.ne x hx hr), H5.out, o4.right H4.out.lt HE5.out HG5.out, HNI.out, own_ne hSS.out HG4.out HBx.out.lt, own_ne hRR.out HG5.out HB4.out.lt⟩
          · have hgv := sh_leave b S last M id (by omega) hok w3 HW2.out
            have hgr := fun W (hW : RH W r R last M) => rh_leave r R last M id (by omega) hok hinv.out.inv W hW
            have hni := hinv.out.leave id
            unfold LeaveP at hgv
            unfold RLeaveP at hgr
            generalize leaveA M id = q at hgv hgr hni
            obtain ⟨⟨ja, jb, jc⟩, M'⟩ := q
            simp only at hgv hgr hni
            have k1 : w3.cell? ⟨B, 1, none⟩ = some (.int .i64 id) := HBx.out.cell 1
            have HGV := Lib.hid hgv; have HGR := Lib.hid hgr; have HNI := Lib.hid hni
            clear hgv hgr hni hok
            go_wp2_with fail
            refine HGV.out.mono ?_
            rintro e w4 ⟨rfl, S4, h4, e4, g4⟩
            have hB4 := HBx.out.keep e4 hBS
            have hR4 := HWR2.out.keep e4 (fun x hx hs => HOW2.out.ne x hs hx)
            clear k1
            have k1 : w4.cell? ⟨B, 1, none⟩ = some (.int .i64 id) := hB4.cell 1
            have HB4 := Lib.hid hB4; have HR4 := Lib.hid hR4; have H4 := Lib.hid h4; have HE4 := Lib.hid e4; have HG4 := Lib.hid g4
            clear hB4 hR4 h4 e4 g4 HGV
            go_wp2_with fail
            refine (HGR.out _ HR4.out).mono ?_
            rintro e w5 ⟨rfl, R5, h5, e5, g5⟩
            have hB5 := HB4.out.keep e5 hBR
            have H5 := Lib.hid h5; have HB5 := Lib.hid hB5; have HE5 := Lib.hid e5; have HG5 := Lib.hid g5
            clear k1 h5 hB5 e5 g5 HGR
            go_wp2_with fail
            go_meet
            have o4 := HOW2.out.left HWR2.out.lt HE4.out HG4.out
            exact ⟨rfl, HB5.out, S4, R5, last, M', H4.out.keep HE5.out (fun x hx hr => o4.ne x hx hr), H5.out, o4.right H4.out.lt HE5.out HG5.out, HNI.out, own_ne hSS.out HG4.out HBx.out.lt, own_ne hRR.out HG5.out HB4.out.lt⟩
          · have hdw := HW2.out.keep0 (Ext.refl [] w3).drew
            have hgv := sh_done b S last M id (by omega) w3.drew hdw
            have hgr := fun W (hW : RH W r R last M) => rh_done r R last M id (by omega) W hW
            have hni := hinv.out.done id
            have hdl := doneA_len id hinv.out.lens
            unfold DoneP at hgv
            unfold RDoneP at hgr
            generalize doneA M id = q at hgv hgr hni hdl
            obtain ⟨dl, M'⟩ := q
            simp only at hgv hgr hni hdl
            have hti := fun W v v' (h : RI W v dl) (h' : RI W v' dl) => ints_any v v' dl dl (by omega) (by omega) W h h'
            have hdk : decide (dl = dl) = true := decide_eq_true rfl
            rw [hdk] at hti
            have k1 : w3.drew.cell? ⟨B, 1, none⟩ = some (.int .i64 id) := HBx.out.drew.cell 1
            have hdo := HOW2.out.quiet (Ext.refl [] w3).drew
            have HDO := Lib.hid hdo
            have HGV := Lib.hid hgv; have HGR := Lib.hid hgr; have HNI := Lib.hid hni; have HTI := Lib.hid hti
            clear hgv hgr hni hdl hti hdk hdo hdw hok
            go_wp2_with fail
            refine start_ (n := 10) (S := fun w' => w'.cell? ⟨B, 1, none⟩ = some (.int .i64 id)) (ds := []) #[false, false, false, false, false, false, false, false, false, false] (by kernel_rfl) rfl rfl (k1) (fun hHeld => ?_)
            refine pure_ (i := 0) (N := some 52) (v := ?_) (a' := ?_) #[true, false, false, false, false, false, false, false, false, false] rfl rfl (by kernel_rfl) (fun _ _ _ h => h) (Or.inl ⟨by rfl, ?_⟩) ?_ ?_
            rotate_left
            · intro w'
              go_simp
              with_reducible rfl
            rotate_left
            · (simp only [Act.put, List.setIfInBounds_toArray, i64_w, i32_w]; dsimp only [List.set_cons_zero, List.set_cons_succ])
              rfl
            refine pure_ (i := 1) (N := some 53) (v := ?_) (a' := ?_) #[true, true, false, false, false, false, false, false, false, false] rfl rfl (by kernel_rfl) (fun _ _ _ h => h) (Or.inl ⟨by rfl, ?_⟩) ?_ ?_
            rotate_left
            · intro w'
              go_simp
              with_reducible rfl
            rotate_left
            · (simp only [Act.put, List.setIfInBounds_toArray, i64_w, i32_w]; dsimp only [List.set_cons_zero, List.set_cons_succ])
              rfl
            refine pure_ (i := 4) (N := some 56) (v := ?_) (a' := ?_) #[true, true, false, false, true, false, false, false, false, false] rfl rfl (by kernel_rfl) (fun _ _ _ h => h) (Or.inl ⟨by rfl, ?_⟩) ?_ ?_
            rotate_left
            · intro w'
              go_simp
              with_reducible rfl
            rotate_left
            · (simp only [Act.put, List.setIfInBounds_toArray, i64_w, i32_w]; dsimp only [List.set_cons_zero, List.set_cons_succ])
              rfl
            refine pure_ (i := 5) (N := some 57) (v := ?_) (a' := ?_) #[true, true, false, false, true, true, false, false, false, false] rfl rfl (by kernel_rfl) (fun _ _ _ h => h) (Or.inl ⟨by rfl, ?_⟩) ?_ ?_
            rotate_left
            · intro w'
              go_simp
              with_reducible rfl
            rotate_left
            · (simp only [Act.put, List.setIfInBounds_toArray, i64_w, i32_w]; dsimp only [List.set_cons_zero, List.set_cons_succ])
              rfl
            refine take_ (i := 2) (N := some 54) (v := ?_) (a' := ?_) #[true, true, true, false, true, true, false, false, false, false] rfl rfl (by kernel_rfl) (fun _ _ _ h => h) (Or.inl ⟨by rfl, ?_⟩) hHeld ?_ ?_
            rotate_left
            · intro w' s0
              go_simp
              with_reducible rfl
            rotate_left
            · (simp only [Act.put, List.setIfInBounds_toArray, i64_w, i32_w]; dsimp only [List.set_cons_zero, List.set_cons_succ])
              rfl
            refine take_ (i := 6) (N := some 58) (v := ?_) (a' := ?_) #[true, true, true, false, true, true, true, false, false, false] rfl rfl (by kernel_rfl) (fun _ _ _ h => h) (Or.inl ⟨by rfl, ?_⟩) hHeld ?_ ?_
            rotate_left
            · intro w' s0
              go_simp
              with_reducible rfl
            rotate_left
            · (simp only [Act.put, List.setIfInBounds_toArray, i64_w, i32_w]; dsimp only [List.set_cons_zero, List.set_cons_succ])
              rfl
            refine one_ (i := 3) (N := some 55) #[true, true, true, true, true, true, true, false, false, false] rfl rfl (by kernel_rfl) (by decide) (fun K hK => ?_)
            refine goes_ Try.func45 (by kernel_rfl) rfl #[.pointer (some ⟨b, 0, none⟩), .int .i64 id] (by rfl) rfl rfl (by simp only [List.map_toArray, List.map_cons, List.map_nil]; rfl) ?_
            with_reducible refine (HGV.out).mono ?_
            rintro e w4 ⟨da, dc, rfl, dr, df, S4, h4, e4, g4⟩
            refine ⟨_, rfl, ?_⟩
            have hB4 := (HBx.out.drew).keep e4 hBS
            have hR4 := (HWR2.out.keep0 (Ext.refl [] w3).drew).keep e4 (fun x hx hs => HDO.out.ne x hs hx)
            refine hK.out _ _ ((hB4.cell 1)) (fun hHeld => ?_)
            clear hK K
            refine norm_ (a' := ?_) ?_ ?_
            rotate_left
            · show Act.put _ (some 55) _ = _
              (simp only [Act.put, List.setIfInBounds_toArray, i64_w, i32_w]; dsimp only [List.set_cons_zero, List.set_cons_succ])
              rfl
            refine one_ (i := 7) (N := some 59) #[true, true, true, true, true, true, true, true, false, false] rfl rfl (by kernel_rfl) (by decide) (fun K hK => ?_)
            refine goes_ Try.func46 (by kernel_rfl) rfl #[.pointer (some ⟨r, 0, none⟩), .int .i64 id] (by rfl) rfl rfl (by simp only [List.map_toArray, List.map_cons, List.map_nil]; rfl) ?_
            with_reducible refine (HGR.out _ hR4).mono ?_
            rintro e w5 ⟨ra, rc, rfl, rr, rf, R5, h5, e5, g5⟩
            refine ⟨_, rfl, ?_⟩
            have hB5 := hB4.keep e5 hBR
            have dr5 := dr.keep e5 (fun q hq hm => HDO.out.ne q (df q hq) hm)
            refine hK.out _ _ ((hB5.cell 1)) (fun hHeld => ?_)
            clear hK K
            refine norm_ (a' := ?_) ?_ ?_
            rotate_left
            · show Act.put _ (some 59) _ = _
              (simp only [Act.put, List.setIfInBounds_toArray, i64_w, i32_w]; dsimp only [List.set_cons_zero, List.set_cons_succ])
              rfl
            refine one_ (i := 8) (N := some 60) #[true, true, true, true, true, true, true, true, true, false] rfl rfl (by kernel_rfl) (by decide) (fun K hK => ?_)
            refine goes_ Try.func27 (by kernel_rfl) rfl #[.slice da dl.length dc, .slice ra dl.length rc] (by rfl) rfl rfl (by simp only [List.map_toArray, List.map_cons, List.map_nil]; rfl) ?_
            with_reducible refine (HTI.out _ _ _ dr5 rr).mono ?_
            rintro e w6 ⟨rfl, e6⟩
            refine ⟨_, rfl, ?_⟩
            have hB6 := hB5.keep e6 (by simp)
            refine hK.out _ _ ((hB6.cell 1)) (fun hHeld => ?_)
            clear hK K
            refine norm_ (a' := ?_) ?_ ?_
            rotate_left
            · show Act.put _ (some 60) _ = _
              (simp only [Act.put, List.setIfInBounds_toArray, i64_w, i32_w]; dsimp only [List.set_cons_zero, List.set_cons_succ])
              rfl
            refine pure_ (i := 9) (N := some 61) (v := ?_) (a' := ?_) #[true, true, true, true, true, true, true, true, true, true] rfl rfl (by kernel_rfl) (fun _ _ _ h => h) (Or.inl ⟨by rfl, ?_⟩) ?_ ?_
            rotate_left
            · intro w'
              go_simp
              with_reducible rfl
            rotate_left
            · (simp only [Act.put, List.setIfInBounds_toArray, i64_w, i32_w]; dsimp only [List.set_cons_zero, List.set_cons_succ])
              rfl
            refine done_ (by kernel_rfl) ?_
            go_wp2_with fail
            go_meet
            have o4 := HDO.out.left (HWR2.out.keep0 (Ext.refl [] w3).drew).lt e4 g4
            have o5 := (o4.right h4.lt e5 g5).quiet e6
            exact ⟨rfl, hB6, S4, R5, last, M', (h4.keep e5 (fun x hx hr => o4.ne x hx hr)).keep0 e6, h5.keep0 e6, o5, HNI.out, own_ne hSS.out g4 HBx.out.lt, own_ne hRR.out g5 hB4.lt⟩
        case rest =>
          obtain ⟨rfl, hBc, S', R', last', M', hw', hwr', ow', hinv', hSB', hRB'⟩ := hcut
          have hsz := hinv'.len
          have hok := hinv'.ok (by omega)
          have hlens := hinv'.lens
          have a1 := sh_want b S' last' M' pre (by omega) wc hw'
          have a2 := fun W (hW : Ext [] wc W) => rh_want r R' last' M' pre (by omega) W (hwr'.keep0 hW)
          have a3 := fun W (hW : Ext [] wc W) => sh_of b S' last' M' aid (by omega) hok W (hw'.keep0 hW)
          have a4 := fun W (hW : Ext [] wc W) => rh_of r R' last' M' aid (by omega) hok W (hwr'.keep0 hW)
          have a5 := fun W (hW : Ext [] wc W) => sh_of b S' last' M' id (by omega) hok W (hw'.keep0 hW)
          have a6 := fun W (hW : Ext [] wc W) => rh_of r R' last' M' id (by omega) hok W (hwr'.keep0 hW)
          have a7 := fun W (hW : Ext [] wc W) => sh_members b S' last' M' pre (by omega) hok W (hw'.keep0 hW)
          have a8 := fun W (hW : Ext [] wc W) => rh_members r R' last' M' pre (by omega) hok W (hwr'.keep0 hW)
          have a9 := fun W (hW : Ext [] wc W) => sh_members b S' last' M' id (by omega) hok W (hw'.keep0 hW)
          have a10 := fun W (hW : Ext [] wc W) => rh_members r R' last' M' id (by omega) hok W (hwr'.keep0 hW)
          have a11 := fun W (hW : Ext [] wc W) => sh_len b S' last' M' W (hw'.keep0 hW)
          have l1 := memA_len pre hlens
          have l2 := memA_len id hlens
          obtain ⟨ra, rc, hrow⟩ := hwr'.row
          have hlr : r < wc.heap.size := lt_of_cell hrow
          obtain ⟨m, hm⟩ : ∃ m, m = M'.length := ⟨_, rfl⟩
          rw [← hm] at hrow a11
          unfold MemP at a7 a8 a9 a10
          generalize wantA M' pre = q at a1 a2
          generalize ofA M' aid = p1 at a3 a4
          generalize ofA M' id = p2 at a5 a6
          generalize memA M' pre = u1 at a7 a8 l1
          generalize memA M' id = u2 at a9 a10 l2
          obtain ⟨⟨vo, vu, vc, vm, vn⟩, ok⟩ := q
          unfold encW at a1 a2
          simp only at a1 a2
          have hl1 : u1.length < 1000000 := by omega
          have hl2 : u2.length < 1000000 := by omega
          have A1 := Lib.hid a1; have A2 := Lib.hid a2; have A3 := Lib.hid a3; have A4 := Lib.hid a4; have A5 := Lib.hid a5; have A6 := Lib.hid a6; have A7 := Lib.hid a7; have A8 := Lib.hid a8; have A9 := Lib.hid a9; have A10 := Lib.hid a10; have A11 := Lib.hid a11
          have HWc := Lib.hid hw'; have HWRc := Lib.hid hwr'; have HOWc := Lib.hid ow'; have HINV := Lib.hid hinv'; have HBc := Lib.hid hBc; have HROW := Lib.hid hrow
          clear a1 a2 a3 a4 a5 a6 a7 a8 a9 a10 a11 l1 l2 hw' hwr' ow' hinv' hBc hSB' hRB' hrow hm hlens hok hsz HBx HW2 HWR2 HOW2 hSS hRR hinv k0 HLOW hlv4
          go_wp2_with fail
          refine A1.out.mono ?_
          rintro e w4 ⟨rfl, e4⟩
          have hY1 : Blk (w4.alloc (.cells #[.string vo, .string vu, .bool vc, .string vm, .string vn] 44 (0, 0))) w4.heap.size #[.string vo, .string vu, .bool vc, .string vm, .string vn] 44 := Blk.new _ _ _
          have e5 : Ext [] wc (w4.alloc (.cells #[.string vo, .string vu, .bool vc, .string vm, .string vn] 44 (0, 0))) := e4.alloc _
          have HY1 := Lib.hid hY1; have E5 := Lib.hid e5
          clear hY1 e5 e4
          go_wp2_with fail
          have hY1 := HY1.out; have e5 := E5.out
          generalize hY : w4.heap.size = Y1 at hY1 ⊢
          clear HY1 E5
          generalize hw5 : w4.alloc (Obj.cells #[Value.string vo, Value.string vu, Value.bool vc, Value.string vm, Value.string vn] 44) = w5 at hY1 e5 ⊢
          clear hw5 hY
          refine (A2.out w5 e5).mono ?_
          rintro e w6 ⟨rfl, e6⟩
          have hY2 := hY1.keep e6 (by simp)
          have e7 := e5.trans e6 (by simp)
          have hX2 : Blk (w6.alloc (.cells #[.string vo, .string vu, .bool vc, .string vm, .string vn] 44 (0, 0))) w6.heap.size #[.string vo, .string vu, .bool vc, .string vm, .string vn] 44 := Blk.new _ _ _
          have hY3 := hY2.alloc (.cells #[.string vo, .string vu, .bool vc, .string vm, .string vn] 44 (0, 0))
          have e8 : Ext [] wc (w6.alloc (.cells #[.string vo, .string vu, .bool vc, .string vm, .string vn] 44 (0, 0))) := e7.alloc _
          have HX2 := Lib.hid hX2; have HY3 := Lib.hid hY3; have E8 := Lib.hid e8
          clear hX2 hY3 e8 e7 hY2 e6 e5 hY1
          go_wp2_with fail
          have hX2 := HX2.out; have hY3 := HY3.out; have e8 := E8.out
          generalize hY : w6.heap.size = Y2 at hX2 ⊢
          generalize hw7 : w6.alloc (Obj.cells #[Value.string vo, Value.string vu, Value.bool vc, Value.string vm, Value.string vn] 44) = w7 at hX2 hY3 e8 ⊢
          clear HX2 HY3 E8 hw7 hY
          have hB7 := HBc.out.keep e8 (by simp)
          have hr7 := (e8.cell (p := ⟨r, 1, none⟩) hlr (by simp)).trans HROW.out
          have hlr7 : r < w7.heap.size := Nat.lt_of_lt_of_le hlr e8.size
          have kf1 : Hid (∀ W, Ext [] w7 W → Cells5 Y1 ⟨vo, vu, vc, vm, vn⟩ W) := fun W hW => ⟨(hY3.keep hW (by simp)).cell 0, (hY3.keep hW (by simp)).cell 1, (hY3.keep hW (by simp)).cell 2, (hY3.keep hW (by simp)).cell 3, (hY3.keep hW (by simp)).cell 4⟩
          have kf2 : Hid (∀ W, Ext [] w7 W → Cells5 Y2 ⟨vo, vu, vc, vm, vn⟩ W) := fun W hW => ⟨(hX2.keep hW (by simp)).cell 0, (hX2.keep hW (by simp)).cell 1, (hX2.keep hW (by simp)).cell 2, (hX2.keep hW (by simp)).cell 3, (hX2.keep hW (by simp)).cell 4⟩
          have kf3 : Hid (∀ W, Ext [] w7 W → W.cell? ⟨B, 1, none⟩ = some (.int .i64 id)) := fun W hW => (hB7.keep hW (by simp)).cell 1
          have kf4 : Hid (∀ W, Ext [] w7 W → W.cell? ⟨r, 1, none⟩ = some (.slice ra m rc)) := fun W hW => (hW.cell (p := ⟨r, 1, none⟩) hlr7 (by simp)).trans hr7
          have hB : ∀ {P : World → Prop}, Hid (∀ W, Ext [] wc W → P W) → Hid (∀ W, Ext [] w7 W → P W) := fun h W hW => h.out W (e8.trans hW (by simp))
          have E8 := Lib.hid e8
          refine sharePlays_r28 w7 b r B Y1 Y2 m rc ra aid pre id p1 p2 ok vo vu vm vn vc u1 u2 (hB A3) (hB A4) (hB A5) (hB A6) (hB A7) (hB A8) (hB A9) (hB A10) (hB A11) hl1 hl2 kf1 kf2 kf3 kf4 _ (fun _ _ _ _ _ h => h) ?_
          clear hB e8 hX2 hY3 hB7 hr7 kf1 kf2 kf3 kf4 A3 A4 A5 A6 A7 A8 A9 A10 A11
          intro v141 v142 v143 v144 v145 v146 v147 v148 v149 v150 v151 v152 v153 v154 v155 v156 v157 v158 v159 v160 v161 v162 v163 v164 v165 v166 v167 v168 v169 v170 v171 v172 v173 v174 v175 v176 v177 v178 v179 v180 v181 v182 v183 v184 v185 v186 v187 v188 v189 v190 v191 v192 v193 v194 v195 v196 v197 v198 v199 w29 e29
          go_wp2_with fail
          have xf := E8.out.trans e29 (by simp)
          exact ⟨⟨i + 1, S', R', last', M', by omega, by go_num, HWc.out.keep0 xf, HWRc.out.keep0 xf, HOWc.out.quiet xf, HINV.out⟩, by simp [intOf]; omega⟩
    · have d1 : decide (i < ln) = false := decide_eq_false hi
      have HOW := Lib.hid ow
      clear hw hwr ow hinv
      go_wp2_with fail
      refine (awakeP_any _).mono ?_
      rintro e w2 ⟨rfl, e2⟩
      go_wp2_with fail
      go_ret
      exact ⟨rfl, HOW.out.ext.trans e2 (by simp)⟩
end Go.Proofs.Ytkbjpackijdnkaa
