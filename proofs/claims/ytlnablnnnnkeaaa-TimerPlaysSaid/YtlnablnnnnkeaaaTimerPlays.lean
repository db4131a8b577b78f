/- TimerPlays: its walk. -/
import Derived.Test.YtlnablnnnnkeaaaRefBoth
import Derived.Test.YtlnablnnnnkeaaaLow
import Derived.Test.YtlnablnnnnkeaaaStructs
import Derived.Deep.CutBlock
import Derived.Deep.DeepCutAuto
namespace Go.Proofs.Ytlnablnnnnkeaaa
open Go.RowKit Go.Deep Go.Proofs.YtlnablnnnnkeaaaW.PrintLast
set_option linter.unusedVariables false
set_option linter.unusedSimpArgs false

structure DeedT where
  op : Int
  tag : Int
  at_ : Int
def encDT (d : DeedT) : List Value := [.int .i64 d.op, .int .i64 d.tag, .int .u64 d.at_]

set_option maxRecDepth 100000 in
theorem open_deedT {H : Type} {enc : TypeId × Value → H} {W : World} {a : Option Addr} {n c : Nat} {d : DataW H} {p : List MemPlace} (h : DataW.Trod enc Try.prog W 0 (fun _ => true) true 43 (.slice a n c) d p) :
    ∃ zs : List DeedT, Slc encDT 3 W a n zs ∧ ∀ z ∈ zs, True := by
  refine Slc.open_structs (E := encDT) (good := fun _ => True) Try.underlying43 Try.underlying47 (by kernel_rfl) (by kernel_rfl) (by decide) ?_ h
  intro cs hc
  obtain ⟨z0, h0, _⟩ := hc.int 0 _ .i64 rfl Try.underlying3
  obtain ⟨z1, h1, _⟩ := hc.int 1 _ .i64 rfl Try.underlying3
  obtain ⟨z2, h2, _⟩ := hc.int 2 _ .u64 rfl Try.underlying23
  have hl : cs.length = 3 := hc.1
  match cs, hl with
  | [c0, c1, c2], _ =>
    simp at h0 h1 h2
    exact ⟨⟨z0, z1, z2⟩, by simp [encDT, h0, h1, h2], trivial⟩

/-- What holds in the midst of a round. -/
def AfterT (w : World) (z : DeedT) (b r B j : Nat) (most : Int) (wx : World) : Prop :=
  Blk wx B (encDT z).toArray 47 ∧ ∃ S R last xs, WO wx b S xs most last ∧ RO wx r R xs most last ∧ Own2 w wx S R ∧ TInv (j + 1) last xs
theorem measT {i ln : Nat} (h : i < ln) : ln - (intOf (Value.int .i64 ((i : Int) + 1))).toNat < ln - (intOf (Value.int .i64 (i : Int))).toNat := by
  simp [intOf]; omega
theorem ws2t {i : Nat} (h : i < 1000000) : wrap64 ((i : Int) + 1) = (i : Int) + 1 := by unfold wrap64; omega

set_option maxHeartbeats 16000000 in
set_option maxRecDepth 100000 in
theorem timerPlays_walk (w : World) (m : Int) (_hm : (Lit.int .i64 m).wf = true) (la : Option Addr) (ln lc : Nat) (ds : List DeedT) (hs : Slc encDT 3 w la ln ds) (_hg : ∀ z ∈ ds, True) :
    Calls Try.prog 7 #[.int .i64 m, .slice la ln lc] w fun e w' => e = .returned (.bool true) ∧ Ext [] w w' := by
  clear _hg _hm
  have HS := Lib.hid hs
  clear hs
  by_cases h150 : 200 < ln
  · have d0 : decide (200 < (ln : Int)) = true := decide_eq_true (by omega)
    go_enter Try.func7, Try.ntmps7
    go_wp2_with fail
    refine (awake_any _).mono ?_
    rintro e w1 ⟨rfl, e1⟩
    go_wp2_with fail
    go_ret
    exact ⟨rfl, e1⟩
  have d0 : decide (200 < (ln : Int)) = false := decide_eq_false (by omega)
  have hln : ln ≤ 200 := by omega
  clear h150
  go_enter Try.func7, Try.ntmps7
  go_wp2_with fail
  refine (wo_new m w).mono ?_
  rintro e w1 ⟨rfl, h1, x1⟩
  have o1 := Own.start x1 (S := [w.heap.size]) (by simp)
  obtain ⟨b, hb⟩ : ∃ b, w.heap.size = b := ⟨_, rfl⟩
  rw [hb] at h1 o1
  go_wp2_with fail
  refine (ro_new m w1).mono ?_
  rintro e w2 ⟨rfl, h2, x2⟩
  have o2 := Own2.start o1 h1.lt x2 (R := [w1.heap.size]) (by simp)
  have h1 := h1.keep0 x2
  obtain ⟨r, hr⟩ : ∃ r, w1.heap.size = r := ⟨_, rfl⟩
  rw [hr] at h2 o2
  clear x1 x2 o1
  go_wp2_with fail
  clear hb hr
  obtain ⟨most, hmost⟩ : ∃ most, most = clampM m := ⟨_, rfl⟩
  rw [← hmost] at h1 h2
  clear hmost
  go_loopw [7] (fun iv wr => ∃ (i : Nat) (S R : List Nat) (last : Int) (xs : List One), i ≤ ln ∧ iv = .int .i64 i ∧ WO wr b S xs most last ∧ RO wr r R xs most last ∧ Own2 w wr S R ∧ Hid (TInv i last xs)) (fun iv _ => ln - (intOf iv).toNat)
  case atStart => exact ⟨0, _, _, 0, [], Nat.zero_le _, rfl, h1, h2, o2, TInv.nil⟩
  case round =>
    obtain ⟨i, S, R, last, xs, hil, rfl, hw, hwr, ow, hinv⟩ := hrel
    clear h1 h2 o2
    by_cases hi : i < ln
    · have d1 : decide (i < ln) = true := decide_eq_true hi
      obtain ⟨z, hz⟩ : ∃ z, ds[i]? = some z := ⟨_, List.getElem?_eq_getElem (by rw [HS.out.1]; exact hi)⟩
      have hza : ∃ ab ao, la = some ⟨ab, ao, none⟩ ∧ ab < w.heap.size ∧ ∀ (j : Nat) (v : Value), (encDT z)[j]? = some v → w.cell? ⟨ab, ao + (i * 3 + j), none⟩ = some v := by
        obtain ⟨ab, ao, g1, g2, g3⟩ := HS.out.2 (by omega)
        exact ⟨ab, ao, g1, g2, g3 i z hz⟩
      obtain ⟨ab, ao, rfl, hab, hcz⟩ := hza
      have hzz : ∀ (j : Nat) (v : Value), (encDT z)[j]? = some v → wr.cell? ⟨ab, ao + (i * 3 + j), none⟩ = some v := fun j v hv => (ow.ext.cell (p := ⟨ab, ao + (i * 3 + j), none⟩) hab (by simp)).trans (hcz j v hv)
      have hz0 := hzz 0 _ rfl; have hz1 := hzz 1 _ rfl; have hz2 := hzz 2 _ rfl
      simp only [Nat.add_zero, ← Nat.add_assoc] at hz0 hz1 hz2
      have b1 : (0 : Int) ≤ (i : Int) := by omega
      have b2 : (i : Int) < (ln : Int) := by omega
      have hB : Blk (wr.alloc (.cells (encDT z).toArray 47 (0, 0))) wr.heap.size (encDT z).toArray 47 := Blk.new _ _ _
      have e3 : Ext [] wr (wr.alloc (.cells (encDT z).toArray 47 (0, 0))) := (Ext.refl _ _).alloc _
      have hlw := hw.lt; have hlr := hwr.lt
      have hSS : Hid (∀ x ∈ S, x ≠ wr.heap.size) := fun x hx => by have := hlw x hx; omega
      have hRR : Hid (∀ x ∈ R, x ≠ wr.heap.size) := fun x hx => by have := hlr x hx; omega
      obtain ⟨op, tag, at_⟩ := z
      obtain ⟨lv, hlv⟩ : ∃ lv, lv = lowI op 4 := ⟨_, rfl⟩
      have hLow := low_any op 4 (by omega) (by omega)
      rw [← hlv] at hLow
      have hlv5 : lv = 0 ∨ lv = 1 ∨ lv = 2 ∨ lv = 3 := by unfold lowI at hlv; omega
      have hw3 := hw.keep0 e3; have hwr3 := hwr.keep0 e3; have ow3 := ow.quiet e3
      have P1 : Hid (i < ln) := hi
      have P2 : Hid (i < 900) := by show i < 900; omega
      have F9 := Lib.hid (ws2t (i := i) (Nat.lt_trans P2.out (by decide)))
      have HB := Lib.hid hB; have HW := Lib.hid hw3; have HWR := Lib.hid hwr3; have HOW := Lib.hid ow3; have HLOW := Lib.hid hLow
      clear hz hab hcz hzz hB e3 hw hwr ow hlw hlr hlv hLow hw3 hwr3 ow3 hil hln hi d0
      unfold encDT at HB HW HWR HOW
      simp only at hz0 hz1 hz2 HB HW HWR HOW
      go_upto_region 10 with fail
      clear hz0 hz1 hz2 b1 b2 d1
      have hBx := HB.out; have hw := HW.out; have hwr := HWR.out; have ow := HOW.out
      generalize hw3e : World.alloc wr _ = w3 at hBx hw hwr ow ⊢
      clear HB HW HWR HOW
      generalize hBe : wr.heap.size = B at hBx hSS hRR ⊢
      have k0 : w3.cell? ⟨B, 0, none⟩ = some (.int .i64 op) := hBx.cell 0
      have HBx := Lib.hid hBx; have HW2 := Lib.hid hw; have HWR2 := Lib.hid hwr; have HOW2 := Lib.hid ow
      clear hBx hw hwr ow hw3e hBe
      go_upto_block 2 with ((go_at_call 16; refine (HLOW.out _).mono ?_; rintro e w4 ⟨rfl, rfl⟩))
      clear k0 HLOW
      go_cut [8] (fun s8 wx => s8 = .pointer (some ⟨B, 0, none⟩) ∧ AfterT w ⟨op, tag, at_⟩ b r B i most wx)
      case first =>
        have hBS : B ∉ S := fun h => hSS.out B h rfl
        have hBR : B ∉ R := fun h => hRR.out B h rfl
        have HBS := Lib.hid hBS; have HBR := Lib.hid hBR
        clear hBS hBR hSS hRR
        rcases hlv5 with rfl | rfl | rfl | rfl
        · obtain ⟨ja, jb, ys, last', hgv, hgr, hni⟩ := arm_both hinv.out P2.out most at_ tag b r S R
          have k1 : w3.cell? ⟨B, 1, none⟩ = some (.int .i64 tag) := HBx.out.cell 1
          have k2 : w3.cell? ⟨B, 2, none⟩ = some (.int .u64 at_) := HBx.out.cell 2
          have HGV := Lib.hid (hgv _ HW2.out); have HGR := Lib.hid hgr; have HNI := Lib.hid hni
          clear hgv hgr hni
          go_wp2_with fail
          refine HGV.out.mono ?_
          rintro e w4 ⟨rfl, S4, h4, e4, g4⟩
          have hB4 := HBx.out.keep e4 HBS.out
          have hR4 := HWR2.out.keep e4 (fun x hx hs => HOW2.out.ne x hs hx)
          clear k1 k2
          have k1 : w4.cell? ⟨B, 1, none⟩ = some (.int .i64 tag) := hB4.cell 1
          have k2 : w4.cell? ⟨B, 2, none⟩ = some (.int .u64 at_) := hB4.cell 2
          have HB4 := Lib.hid hB4; have HR4 := Lib.hid hR4; have H4 := Lib.hid h4; have HE4 := Lib.hid e4; have HG4 := Lib.hid g4
          clear hB4 hR4 h4 e4 g4 HGV
          go_wp2_with fail
          refine (HGR.out _ HR4.out).mono ?_
          rintro e w5 ⟨rfl, R5, h5, e5, g5⟩
          have hB5 := HB4.out.keep e5 HBR.out
          have H5 := Lib.hid h5; have HB5 := Lib.hid hB5; have HE5 := Lib.hid e5; have HG5 := Lib.hid g5
          clear k1 k2 h5 hB5 e5 g5 HGR
          go_wp2_with fail
          go_meet
          have o4 := HOW2.out.left HWR2.out.lt HE4.out HG4.out
          exact ⟨rfl, HB5.out, S4, R5, last', ys, H4.out.keep HE5.out (fun x hx hr => o4.ne x hx hr), H5.out, o4.right H4.out.lt HE5.out HG5.out, HNI.out⟩
        · obtain ⟨jc, ys, hgv, hgr, hni⟩ := cancel_both hinv.out P2.out most tag b r S R
          have k1 : w3.drew.cell? ⟨B, 1, none⟩ = some (.int .i64 tag) := HBx.out.drew.cell 1
          have hdo := HOW2.out.quiet (Ext.refl [] w3).drew
          have HDO := Lib.hid hdo
          have HGV := Lib.hid (hgv _ (HW2.out.keep0 (Ext.refl [] w3).drew)); have HGR := Lib.hid hgr; have HNI := Lib.hid hni
          clear hgv hgr hni hdo
          go_wp2_with fail
          refine start_ (n := 9) (S := fun w' => w'.cell? ⟨B, 1, none⟩ = some (.int .i64 tag)) (ds := []) #[false, false, false, false, false, false, false, false, false] (by kernel_rfl) rfl rfl (k1) (fun hHeld => ?_)
          refine pure_ (i := 0) (N := some 94) (v := ?_) (a' := ?_) #[true, false, false, false, false, false, false, false, false] rfl rfl (by kernel_rfl) (fun _ _ _ h => h) (Or.inl ⟨by rfl, ?_⟩) ?_ ?_
          rotate_left
          · intro w'
            go_simp
            with_reducible rfl
          rotate_left
          · (simp only [Act.put, List.setIfInBounds_toArray, i64_w, i32_w]; dsimp only [List.set_cons_zero, List.set_cons_succ])
            rfl
          refine pure_ (i := 1) (N := some 95) (v := ?_) (a' := ?_) #[true, true, false, false, false, false, false, false, false] rfl rfl (by kernel_rfl) (fun _ _ _ h => h) (Or.inl ⟨by rfl, ?_⟩) ?_ ?_
          rotate_left
          · intro w'
            go_simp
            with_reducible rfl
          rotate_left
          · (simp only [Act.put, List.setIfInBounds_toArray, i64_w, i32_w]; dsimp only [List.set_cons_zero, List.set_cons_succ])
            rfl
          refine pure_ (i := 4) (N := some 98) (v := ?_) (a' := ?_) #[true, true, false, false, true, false, false, false, false] rfl rfl (by kernel_rfl) (fun _ _ _ h => h) (Or.inl ⟨by rfl, ?_⟩) ?_ ?_
          rotate_left
          · intro w'
            go_simp
            with_reducible rfl
          rotate_left
          · (simp only [Act.put, List.setIfInBounds_toArray, i64_w, i32_w]; dsimp only [List.set_cons_zero, List.set_cons_succ])
            rfl
          refine pure_ (i := 5) (N := some 99) (v := ?_) (a' := ?_) #[true, true, false, false, true, true, false, false, false] rfl rfl (by kernel_rfl) (fun _ _ _ h => h) (Or.inl ⟨by rfl, ?_⟩) ?_ ?_
          rotate_left
          · intro w'
            go_simp
            with_reducible rfl
          rotate_left
          · (simp only [Act.put, List.setIfInBounds_toArray, i64_w, i32_w]; dsimp only [List.set_cons_zero, List.set_cons_succ])
            rfl
          refine take_ (i := 2) (N := some 96) (v := ?_) (a' := ?_) #[true, true, true, false, true, true, false, false, false] rfl rfl (by kernel_rfl) (fun _ _ _ h => h) (Or.inl ⟨by rfl, ?_⟩) hHeld ?_ ?_
          rotate_left
          · intro w' s0
            go_simp
            with_reducible rfl
          rotate_left
          · (simp only [Act.put, List.setIfInBounds_toArray, i64_w, i32_w]; dsimp only [List.set_cons_zero, List.set_cons_succ])
            rfl
          refine take_ (i := 6) (N := some 100) (v := ?_) (a' := ?_) #[true, true, true, false, true, true, true, false, false] rfl rfl (by kernel_rfl) (fun _ _ _ h => h) (Or.inl ⟨by rfl, ?_⟩) hHeld ?_ ?_
          rotate_left
          · intro w' s0
            go_simp
            with_reducible rfl
          rotate_left
          · (simp only [Act.put, List.setIfInBounds_toArray, i64_w, i32_w]; dsimp only [List.set_cons_zero, List.set_cons_succ])
            rfl
          refine one_ (i := 3) (N := some 97) #[true, true, true, true, true, true, true, false, false] rfl rfl (by kernel_rfl) (by decide) (fun K hK => ?_)
          refine goes_ Try.func17 (by kernel_rfl) rfl #[.pointer (some ⟨b, 0, none⟩), .int .i64 tag] (by rfl) rfl rfl (by simp only [List.map_toArray, List.map_cons, List.map_nil]; rfl) ?_
          with_reducible refine (HGV.out).mono ?_
          rintro e w4 ⟨rfl, S4, h4, e4, g4⟩
          refine ⟨_, rfl, ?_⟩
          have hB4 := (HBx.out.drew).keep e4 HBS.out
          have hR4 := (HWR2.out.keep0 (Ext.refl [] w3).drew).keep e4 (fun x hx hs => HDO.out.ne x hs hx)
          refine hK.out _ _ ((hB4.cell 1)) (fun hHeld => ?_)
          clear hK K
          refine norm_ (a' := ?_) ?_ ?_
          rotate_left
          · show Act.put _ (some 97) _ = _
            (simp only [Act.put, List.setIfInBounds_toArray, i64_w, i32_w]; dsimp only [List.set_cons_zero, List.set_cons_succ])
            rfl
          refine one_ (i := 7) (N := some 101) #[true, true, true, true, true, true, true, true, false] rfl rfl (by kernel_rfl) (by decide) (fun K hK => ?_)
          refine goes_ Try.func20 (by kernel_rfl) rfl #[.pointer (some ⟨r, 0, none⟩), .int .i64 tag] (by rfl) rfl rfl (by simp only [List.map_toArray, List.map_cons, List.map_nil]; rfl) ?_
          with_reducible refine (HGR.out _ hR4).mono ?_
          rintro e w5 ⟨rfl, R5, h5, e5, g5⟩
          refine ⟨_, rfl, ?_⟩
          have hB5 := hB4.keep e5 HBR.out
          refine hK.out _ _ ((hB5.cell 1)) (fun hHeld => ?_)
          clear hK K
          refine norm_ (a' := ?_) ?_ ?_
          rotate_left
          · show Act.put _ (some 101) _ = _
            (simp only [Act.put, List.setIfInBounds_toArray, i64_w, i32_w]; dsimp only [List.set_cons_zero, List.set_cons_succ])
            rfl
          refine pure_ (i := 8) (N := some 102) (v := ?_) (a' := ?_) #[true, true, true, true, true, true, true, true, true] rfl rfl (by kernel_rfl) (fun _ _ _ h => h) (Or.inl ⟨by rfl, ?_⟩) ?_ ?_
          rotate_left
          · intro w'
            go_simp
            with_reducible rfl
          rotate_left
          · (simp only [Act.put, List.setIfInBounds_toArray, i64_w, i32_w]; dsimp only [List.set_cons_zero, List.set_cons_succ])
            rfl
          refine done_ (by kernel_rfl) ?_
          go_wp2_with fail
          go_meet
          have o4 := HDO.out.left (HWR2.out.keep0 (Ext.refl [] w3).drew).lt e4 g4
          exact ⟨rfl, hB5, S4, R5, last, ys, h4.keep e5 (fun x hx hr => o4.ne x hx hr), h5, o4.right h4.lt e5 g5, HNI.out⟩
        · obtain ⟨ja, jb, jc, ys, hgv, hgr, hni⟩ := due_both hinv.out P2.out most at_ b r S R
          have k2 : w3.cell? ⟨B, 2, none⟩ = some (.int .u64 at_) := HBx.out.cell 2
          have HGV := Lib.hid (hgv _ HW2.out); have HGR := Lib.hid hgr; have HNI := Lib.hid hni
          clear hgv hgr hni
          go_wp2_with fail
          refine HGV.out.mono ?_
          rintro e w4 ⟨rfl, S4, h4, e4, g4⟩
          have hB4 := HBx.out.keep e4 HBS.out
          have hR4 := HWR2.out.keep e4 (fun x hx hs => HOW2.out.ne x hs hx)
          clear k2
          have k2 : w4.cell? ⟨B, 2, none⟩ = some (.int .u64 at_) := hB4.cell 2
          have HB4 := Lib.hid hB4; have HR4 := Lib.hid hR4; have H4 := Lib.hid h4; have HE4 := Lib.hid e4; have HG4 := Lib.hid g4
          clear hB4 hR4 h4 e4 g4 HGV
          go_wp2_with fail
          refine (HGR.out _ HR4.out).mono ?_
          rintro e w5 ⟨rfl, R5, h5, e5, g5⟩
          have hB5 := HB4.out.keep e5 HBR.out
          have H5 := Lib.hid h5; have HB5 := Lib.hid hB5; have HE5 := Lib.hid e5; have HG5 := Lib.hid g5
          clear k2 h5 hB5 e5 g5 HGR
          go_wp2_with fail
          go_meet
          have o4 := HOW2.out.left HWR2.out.lt HE4.out HG4.out
          exact ⟨rfl, HB5.out, S4, R5, last, ys, H4.out.keep HE5.out (fun x hx hr => o4.ne x hx hr), H5.out, o4.right H4.out.lt HE5.out HG5.out, HNI.out⟩
        · obtain ⟨ja, jc, hgv, hgr⟩ := next_both hinv.out P2.out most b r S R
          have HGV := Lib.hid (hgv _ HW2.out); have HGR := Lib.hid hgr
          clear hgv hgr
          go_wp2_with fail
          refine HGV.out.mono ?_
          rintro e w4 ⟨rfl, e4⟩
          have HE4 := Lib.hid e4
          clear e4 HGV
          go_wp2_with fail
          refine (HGR.out _ (HWR2.out.keep0 HE4.out)).mono ?_
          rintro e w5 ⟨rfl, e5⟩
          have HE5 := Lib.hid (HE4.out.trans e5 (by simp))
          clear e5 HGR
          go_wp2_with fail
          go_meet
          exact ⟨rfl, HBx.out.keep HE5.out (by simp), S, R, last, xs, HW2.out.keep0 HE5.out, HWR2.out.keep0 HE5.out, HOW2.out.quiet HE5.out, hinv.out.up⟩
      case rest =>
        obtain ⟨rfl, hBc, S', R', last', ys, hw', hwr', ow', hinv'⟩ := hcut
        have hle := wo_len b S' ys most last' wc.drew (hw'.keep0 (Ext.refl [] wc).drew)
        obtain ⟨ra, rc, hrow⟩ := hwr'.row
        obtain ⟨yl, hyl⟩ : ∃ yl, yl = ys.length := ⟨_, rfl⟩
        rw [← hyl] at hle hrow
        have HWc := Lib.hid hw'; have HWRc := Lib.hid hwr'; have HOWc := Lib.hid ow'; have HINV := Lib.hid hinv'; have HLE := Lib.hid hle
        have hrow2 : wc.drew.cell? ⟨r, 2, none⟩ = some (.slice ra yl rc) := hrow
        clear hw' hwr' ow' hinv' hBc hle HBx HW2 HWR2 HOW2 hSS hRR hinv hlv5 hyl
        go_wp2_with fail
        refine start_ (n := 8) (S := fun w' => w'.cell? ⟨r, 2, none⟩ = some (.slice ra yl rc)) (ds := []) #[false, false, false, false, false, false, false, false] (by kernel_rfl) rfl rfl (hrow2) (fun hHeld => ?_)
        refine pure_ (i := 0) (N := some 134) (v := ?_) (a' := ?_) #[true, false, false, false, false, false, false, false] rfl rfl (by kernel_rfl) (fun _ _ _ h => h) (Or.inl ⟨by rfl, ?_⟩) ?_ ?_
        rotate_left
        · intro w'
          go_simp
          with_reducible rfl
        rotate_left
        · (simp only [Act.put, List.setIfInBounds_toArray, i64_w, i32_w]; dsimp only [List.set_cons_zero, List.set_cons_succ])
          rfl
        refine pure_ (i := 2) (N := some 136) (v := ?_) (a' := ?_) #[true, false, true, false, false, false, false, false] rfl rfl (by kernel_rfl) (fun _ _ _ h => h) (Or.inl ⟨by rfl, ?_⟩) ?_ ?_
        rotate_left
        · intro w'
          go_simp
          with_reducible rfl
        rotate_left
        · (simp only [Act.put, List.setIfInBounds_toArray, i64_w, i32_w]; dsimp only [List.set_cons_zero, List.set_cons_succ])
          rfl
        refine pure_ (i := 3) (N := some 137) (v := ?_) (a' := ?_) #[true, false, true, true, false, false, false, false] rfl rfl (by kernel_rfl) (fun _ _ _ h => h) (Or.inl ⟨by rfl, ?_⟩) ?_ ?_
        rotate_left
        · intro w'
          go_simp
          with_reducible rfl
        rotate_left
        · (simp only [Act.put, List.setIfInBounds_toArray, i64_w, i32_w]; dsimp only [List.set_cons_zero, List.set_cons_succ])
          rfl
        refine pure_ (i := 4) (N := some 138) (v := ?_) (a' := ?_) #[true, false, true, true, true, false, false, false] rfl rfl (by kernel_rfl) (fun _ _ _ h => h) (Or.inl ⟨by rfl, ?_⟩) ?_ ?_
        rotate_left
        · intro w'
          go_simp
          with_reducible rfl
        rotate_left
        · (simp only [Act.put, List.setIfInBounds_toArray, i64_w, i32_w]; dsimp only [List.set_cons_zero, List.set_cons_succ])
          rfl
        refine take_ (i := 5) (N := some 139) (v := ?_) (a' := ?_) #[true, false, true, true, true, true, false, false] rfl rfl (by kernel_rfl) (fun _ _ _ h => h) (Or.inl ⟨by rfl, ?_⟩) hHeld ?_ ?_
        rotate_left
        · intro w' s0
          go_simp
          with_reducible rfl
        rotate_left
        · (simp only [Act.put, List.setIfInBounds_toArray, i64_w, i32_w]; dsimp only [List.set_cons_zero, List.set_cons_succ])
          rfl
        refine pure_ (i := 6) (N := some 140) (v := ?_) (a' := ?_) #[true, false, true, true, true, true, true, false] rfl rfl (by kernel_rfl) (fun _ _ _ h => h) (Or.inl ⟨by rfl, ?_⟩) ?_ ?_
        rotate_left
        · intro w'
          go_simp
          with_reducible rfl
        rotate_left
        · (simp only [Act.put, List.setIfInBounds_toArray, i64_w, i32_w]; dsimp only [List.set_cons_zero, List.set_cons_succ])
          rfl
        refine one_ (i := 1) (N := some 135) #[true, true, true, true, true, true, true, false] rfl rfl (by kernel_rfl) (by decide) (fun K hK => ?_)
        refine goes_ Try.func13 (by kernel_rfl) rfl #[.pointer (some ⟨b, 0, none⟩)] (by rfl) rfl rfl (by simp only [List.map_toArray, List.map_cons, List.map_nil]; rfl) ?_
        with_reducible refine (HLE.out).mono ?_
        rintro e w4 ⟨rfl, rfl⟩
        refine ⟨_, rfl, ?_⟩
        refine hK.out _ _ (hrow2) (fun hHeld => ?_)
        clear hK K
        refine norm_ (a' := ?_) ?_ ?_
        rotate_left
        · show Act.put _ (some 135) _ = _
          (simp only [Act.put, List.setIfInBounds_toArray, i64_w, i32_w]; dsimp only [List.set_cons_zero, List.set_cons_succ])
          rfl
        refine pure_ (i := 7) (N := some 141) (v := ?_) (a' := ?_) #[true, true, true, true, true, true, true, true] rfl rfl (by kernel_rfl) (fun _ _ _ h => h) (Or.inl ⟨by rfl, ?_⟩) ?_ ?_
        rotate_left
        · intro w'
          go_simp
          with_reducible rfl
        rotate_left
        · (simp only [Act.put, List.setIfInBounds_toArray, i64_w, i32_w]; dsimp only [List.set_cons_zero, List.set_cons_succ])
          rfl
        refine done_ (by kernel_rfl) ?_
        have f9 := F9.out
        have e9 : Ext [] wc wc.drew := (Ext.refl _ _).drew
        have E9 := Lib.hid e9
        clear e9 hrow hrow2
        go_wp2_with fail
        exact ⟨⟨i + 1, S', R', last', ys, P1.out, by go_num, HWc.out.keep0 E9.out, HWRc.out.keep0 E9.out, HOWc.out.quiet E9.out, HINV.out⟩, by first | exact measT P1.out | (rw [f9]; exact measT P1.out)⟩
    · have d1 : decide (i < ln) = false := decide_eq_false hi
      have HOW := Lib.hid ow
      clear hw hwr ow hinv
      go_wp2_with fail
      refine (awake_any _).mono ?_
      rintro e w2 ⟨rfl, e2⟩
      go_wp2_with fail
      go_ret
      exact ⟨rfl, HOW.out.ext.trans e2 (by simp)⟩
end Go.Proofs.Ytlnablnnnnkeaaa
