/- GroupPlays: its walk. -/
import Derived.Test.YtlagogjnoibkcaaGroupPlaysR
import Derived.Test.YtlagogjnoibkcaaGpInv
import Derived.Test.YtlagogjnoibkcaaRGr3
import Derived.Test.YtlagogjnoibkcaaGrAwake
import Derived.Test.YtlagogjnoibkcaaLow
import Derived.Test.YtlagogjnoibkcaaStructs
import Derived.Deep.CutBlock
import Derived.Deep.DeepCutAuto
namespace Go.Proofs.Ytlagogjnoibkcaa
open Go.RowKit Go.Deep Go.Proofs.YtlagogjnoibkcaaW.PrintLast
set_option linter.unusedVariables false
set_option linter.unusedSimpArgs false

structure DeedG where
  op : Int
  g : Int
  id : Int
def encDG (d : DeedG) : List Value := [.int .i64 d.op, .int .i64 d.g, .int .i64 d.id]

set_option maxRecDepth 100000 in
theorem open_deedG {H : Type} {enc : TypeId × Value → H} {W : World} {a : Option Addr} {n c : Nat} {d : DataW H} {p : List MemPlace} (h : DataW.Trod enc Try.prog W 0 (fun _ => true) true 53 (.slice a n c) d p) :
    ∃ zs : List DeedG, Slc encDG 3 W a n zs ∧ ∀ z ∈ zs, True := by
  refine Slc.open_structs (E := encDG) (good := fun _ => True) Try.underlying53 Try.underlying57 (by kernel_rfl) (by kernel_rfl) (by decide) ?_ h
  intro cs hc
  obtain ⟨z0, h0, _⟩ := hc.int 0 _ .i64 rfl Try.underlying3
  obtain ⟨z1, h1, _⟩ := hc.int 1 _ .i64 rfl Try.underlying3
  obtain ⟨z2, h2, _⟩ := hc.int 2 _ .i64 rfl Try.underlying3
  have hl : cs.length = 3 := hc.1
  match cs, hl with
  | [c0, c1, c2], _ =>
    simp at h0 h1 h2
    exact ⟨⟨z0, z1, z2⟩, by simp [encDG, h0, h1, h2], trivial⟩

/-- What holds in the midst of a round. -/
def AfterG (w : World) (z : DeedG) (b r B j : Nat) (wx : World) : Prop :=
  Blk wx B (encDG z).toArray 57 ∧ ∃ S R M, GS wx b S M ∧ GQ wx r R M ∧ Own2 w wx S R ∧ PInv (j + 1) M ∧ (∀ x ∈ S, x ≠ B) ∧ (∀ x ∈ R, x ≠ B)
theorem measD {i ln : Nat} (h : i < ln) : ln - (intOf (Value.int .i64 ((i : Int) + 1))).toNat < ln - (intOf (Value.int .i64 (i : Int))).toNat := by
  simp [intOf]; omega

set_option maxHeartbeats 16000000 in
set_option maxRecDepth 100000 in
theorem groupPlays_walk (w : World) (la : Option Addr) (ln lc : Nat) (ds : List DeedG) (hs : Slc encDG 3 w la ln ds) (_hg : ∀ z ∈ ds, True) (ask : Int) (_ha : (Lit.int .i64 ask).wf = true) :
    Calls Try.prog 7 #[.slice la ln lc, .int .i64 ask] w fun e w' => e = .returned (.bool true) ∧ Ext [] w w' := by
  clear _hg _ha
  have HS := Lib.hid hs
  clear hs
  by_cases h150 : 200 < ln
  · have d0 : decide (200 < (ln : Int)) = true := decide_eq_true (by omega)
    go_enter Try.func7, Try.ntmps7
    go_wp2_with fail
    refine (awakeG_any _).mono ?_
    rintro e w1 ⟨rfl, e1⟩
    go_wp2_with fail
    go_ret
    exact ⟨rfl, e1⟩
  have d0 : decide (200 < (ln : Int)) = false := decide_eq_false (by omega)
  have hln : ln ≤ 200 := by omega
  clear h150
  go_enter Try.func7, Try.ntmps7
  go_wp2_with fail
  refine (gs_new w).mono ?_
  rintro e w1 ⟨rfl, h1, x1⟩
  have o1 := Own.start x1 (S := [w.heap.size]) (by simp)
  obtain ⟨b, hb⟩ : ∃ b, w.heap.size = b := ⟨_, rfl⟩
  rw [hb] at h1 o1
  go_wp2_with fail
  refine (rg_new w1).mono ?_
  rintro e w2 ⟨rfl, h2, x2⟩
  have o2 := Own2.start o1 h1.lt x2 (R := [w1.heap.size]) (by simp)
  have h1 := h1.keep0 x2
  obtain ⟨r, hr⟩ : ∃ r, w1.heap.size = r := ⟨_, rfl⟩
  rw [hr] at h2 o2
  clear x1 x2 o1
  go_wp2_with fail
  clear hb hr
  go_loopw [7] (fun iv wr => ∃ (i : Nat) (S R : List Nat) (M : List Gk), i ≤ ln ∧ iv = .int .i64 i ∧ GS wr b S M ∧ GQ wr r R M ∧ Own2 w wr S R ∧ Hid (PInv i M)) (fun iv _ => ln - (intOf iv).toNat)
  case atStart => exact ⟨0, _, _, [], Nat.zero_le _, rfl, h1, h2, o2, PInv.nil⟩
  case round =>
    obtain ⟨i, S, R, M, hil, rfl, hw, hwr, ow, hinv⟩ := hrel
    clear h1 h2 o2
    by_cases hi : i < ln
    · have d1 : decide (i < ln) = true := decide_eq_true hi
      obtain ⟨z, hz⟩ : ∃ z, ds[i]? = some z := ⟨_, List.getElem?_eq_getElem (by rw [HS.out.1]; exact hi)⟩
      have hza : ∃ ab ao, la = some ⟨ab, ao, none⟩ ∧ ab < w.heap.size ∧ ∀ (j : Nat) (v : Value), (encDG z)[j]? = some v → w.cell? ⟨ab, ao + (i * 3 + j), none⟩ = some v := by
        obtain ⟨ab, ao, g1, g2, g3⟩ := HS.out.2 (by omega)
        exact ⟨ab, ao, g1, g2, g3 i z hz⟩
      obtain ⟨ab, ao, rfl, hab, hcz⟩ := hza
      have hzz : ∀ (j : Nat) (v : Value), (encDG z)[j]? = some v → wr.cell? ⟨ab, ao + (i * 3 + j), none⟩ = some v := fun j v hv => (ow.ext.cell (p := ⟨ab, ao + (i * 3 + j), none⟩) hab (by simp)).trans (hcz j v hv)
      have hz0 := hzz 0 _ rfl; have hz1 := hzz 1 _ rfl; have hz2 := hzz 2 _ rfl
      simp only [Nat.add_zero, ← Nat.add_assoc] at hz0 hz1 hz2
      have b1 : (0 : Int) ≤ (i : Int) := by omega
      have b2 : (i : Int) < (ln : Int) := by omega
      have hB : Blk (wr.alloc (.cells (encDG z).toArray 57 (0, 0))) wr.heap.size (encDG z).toArray 57 := Blk.new _ _ _
      have e3 : Ext [] wr (wr.alloc (.cells (encDG z).toArray 57 (0, 0))) := (Ext.refl _ _).alloc _
      have hlw := hw.lt; have hlr := hwr.lt
      have hSS : Hid (∀ x ∈ S, x ≠ wr.heap.size) := fun x hx => by have := hlw x hx; omega
      have hRR : Hid (∀ x ∈ R, x ≠ wr.heap.size) := fun x hx => by have := hlr x hx; omega
      obtain ⟨op, g, id⟩ := z
      obtain ⟨lv, hlv⟩ : ∃ lv, lv = lowI op 5 := ⟨_, rfl⟩
      have hLow := low_any op 5 (by omega) (by omega)
      rw [← hlv] at hLow
      have hlv5 : lv = 0 ∨ lv = 1 ∨ lv = 2 ∨ lv = 3 ∨ lv = 4 := by unfold lowI at hlv; omega
      have hw3 := hw.keep0 e3; have hwr3 := hwr.keep0 e3; have ow3 := ow.quiet e3
      have P1 : Hid (i < ln) := hi
      have P2 : Hid (i < 900) := by show i < 900; omega
      have F9 := Lib.hid (ws2 (i := i) (Nat.lt_trans P2.out (by decide)))
      have HB := Lib.hid hB; have HW := Lib.hid hw3; have HWR := Lib.hid hwr3; have HOW := Lib.hid ow3; have HLOW := Lib.hid hLow
      clear hz hab hcz hzz hB e3 hw hwr ow hlw hlr hlv hLow hw3 hwr3 ow3 hil hln hi d0
      unfold encDG at HB HW HWR HOW
      simp only at hz0 hz1 hz2 HB HW HWR HOW
      go_upto_region 10 with fail
      clear hz0 hz1 hz2 b1 b2 d1
      have hBx := HB.out; have hw := HW.out; have hwr := HWR.out; have ow := HOW.out
      generalize hw3e : World.alloc wr _ = w3 at hBx hw hwr ow ⊢
      clear HB HW HWR HOW
      generalize hBe : wr.heap.size = B at hBx hSS hRR ⊢
      have k0 : w3.cell? ⟨B, 0, none⟩ = some (.int .i64 op) := hBx.cell 0
      have HBx := Lib.hid hBx; have HW2 := Lib.hid hw; have HWR2 := Lib.hid hwr; have HOW2 := Lib.hid ow
      clear hBx hw hwr ow hw3e hBe
      go_upto_block 2 with ((go_at_call 13; refine (HLOW.out _).mono ?_; rintro e w4 ⟨rfl, rfl⟩))
      clear k0 HLOW
      go_cut [8] (fun s8 wx => s8 = .pointer (some ⟨B, 0, none⟩) ∧ AfterG w ⟨op, g, id⟩ b r B i wx)
      case first =>
        have hBS : B ∉ S := fun h => hSS.out B h rfl
        have hBR : B ∉ R := fun h => hRR.out B h rfl
        have hM := hinv.out.len
        have hok := hinv.out.ok (Nat.lt_trans P2.out (by decide))
        have hso := hinv.out.sort
        have HBS := Lib.hid hBS; have HBR := Lib.hid hBR; have HOK := Lib.hid hok
        have HM4 : Hid (M.length < 10000) := by show M.length < 10000; omega
        clear hBS hBR hM hok
        rcases (show lv = 0 ∨ (lv = 1 ∨ lv = 2) ∨ lv = 3 ∨ lv = 4 by omega) with rfl | hlv | rfl | rfl
        · clear hlv5
          have hgv := gs_make b S M w3 HW2.out
          have hgr := fun W (hW : GQ W r R M) => rg_make r R M W hW
          have hni := hinv.out.make
          unfold MakeP at hgv
          unfold MakeQ at hgr
          generalize makeM M = q at hgv hgr hni
          obtain ⟨⟨ja, jb⟩, M'⟩ := q
          simp only at hgv hgr hni
          have HGV := Lib.hid hgv; have HGR := Lib.hid hgr; have HNI := Lib.hid hni
          clear hgv hgr hni hso
          go_wp2_with fail
          refine HGV.out.mono ?_
          rintro e w4 ⟨rfl, S4, h4, e4, g4⟩
          have hB4 := HBx.out.keep e4 HBS.out
          have hR4 := HWR2.out.keep e4 (fun x hx hs => HOW2.out.ne x hs hx)
          have HB4 := Lib.hid hB4; have HR4 := Lib.hid hR4; have H4 := Lib.hid h4; have HE4 := Lib.hid e4; have HG4 := Lib.hid g4
          clear hB4 hR4 h4 e4 g4 HGV
          go_wp2_with fail
          refine (HGR.out _ HR4.out).mono ?_
          rintro e w5 ⟨rfl, R5, h5, e5, g5⟩
          have hB5 := HB4.out.keep e5 HBR.out
          have H5 := Lib.hid h5; have HB5 := Lib.hid hB5; have HE5 := Lib.hid e5; have HG5 := Lib.hid g5
          clear h5 hB5 e5 g5 HGR
          go_wp2_with fail
          go_meet
          have o4 := HOW2.out.left HWR2.out.lt HE4.out HG4.out
          exact ⟨rfl, HB5.out, S4, R5, M', H4.out.keep HE5.out (fun x hx hr => o4.ne x hx hr), H5.out, o4.right H4.out.lt HE5.out HG5.out, HNI.out, own_ne hSS.out HG4.out HBx.out.lt, own_ne hRR.out HG5.out HB4.out.lt⟩
        · clear hlv5
          have hwd := HW2.out.keep0 (Ext.refl [] w3).drew
          have hgv := gs_join b S M g id HM4.out HOK.out hso w3.drew hwd
          have hgr := fun W (hW : GQ W r R M) => rg_join r R M g id HM4.out HOK.out hso W hW
          have hni := hinv.out.join g id
          unfold JoinP at hgv
          unfold JoinQ at hgr
          generalize joinG M g id = q at hgv hgr hni
          obtain ⟨ja, M'⟩ := q
          simp only at hgv hgr hni
          have k1 : w3.drew.cell? ⟨B, 1, none⟩ = some (.int .i64 g) := HBx.out.drew.cell 1
          have k2 : w3.drew.cell? ⟨B, 2, none⟩ = some (.int .i64 id) := HBx.out.drew.cell 2
          have hdo := HOW2.out.quiet (Ext.refl [] w3).drew
          have HDO := Lib.hid hdo
          have HGV := Lib.hid hgv; have HGR := Lib.hid hgr; have HNI := Lib.hid hni
          clear hgv hgr hni hso hwd hdo
          rcases hlv with rfl | rfl
          all_goals
            go_wp2_with fail
            skip
          refine start_ (n := 13) (S := fun w' => w'.cell? ⟨B, 1, none⟩ = some (.int .i64 g) ∧ w'.cell? ⟨B, 2, none⟩ = some (.int .i64 id)) (ds := []) #[false, false, false, false, false, false, false, false, false, false, false, false, false] (by kernel_rfl) rfl rfl ⟨k1, k2⟩ (fun hHeld => ?_)
          refine pure_ (i := 0) (N := some 88) (v := ?_) (a' := ?_) #[true, false, false, false, false, false, false, false, false, false, false, false, false] rfl rfl (by kernel_rfl) (fun _ _ _ h => h) (Or.inl ⟨by rfl, ?_⟩) ?_ ?_
          rotate_left
          · intro w'
            go_simp
            with_reducible rfl
          rotate_left
          · (simp only [Act.put, List.setIfInBounds_toArray, i64_w, i32_w]; dsimp only [List.set_cons_zero, List.set_cons_succ])
            rfl
          refine pure_ (i := 1) (N := some 89) (v := ?_) (a' := ?_) #[true, true, false, false, false, false, false, false, false, false, false, false, false] rfl rfl (by kernel_rfl) (fun _ _ _ h => h) (Or.inl ⟨by rfl, ?_⟩) ?_ ?_
          rotate_left
          · intro w'
            go_simp
            with_reducible rfl
          rotate_left
          · (simp only [Act.put, List.setIfInBounds_toArray, i64_w, i32_w]; dsimp only [List.set_cons_zero, List.set_cons_succ])
            rfl
          refine pure_ (i := 3) (N := some 91) (v := ?_) (a' := ?_) #[true, true, false, true, false, false, false, false, false, false, false, false, false] rfl rfl (by kernel_rfl) (fun _ _ _ h => h) (Or.inl ⟨by rfl, ?_⟩) ?_ ?_
          rotate_left
          · intro w'
            go_simp
            with_reducible rfl
          rotate_left
          · (simp only [Act.put, List.setIfInBounds_toArray, i64_w, i32_w]; dsimp only [List.set_cons_zero, List.set_cons_succ])
            rfl
          refine pure_ (i := 6) (N := some 94) (v := ?_) (a' := ?_) #[true, true, false, true, false, false, true, false, false, false, false, false, false] rfl rfl (by kernel_rfl) (fun _ _ _ h => h) (Or.inl ⟨by rfl, ?_⟩) ?_ ?_
          rotate_left
          · intro w'
            go_simp
            with_reducible rfl
          rotate_left
          · (simp only [Act.put, List.setIfInBounds_toArray, i64_w, i32_w]; dsimp only [List.set_cons_zero, List.set_cons_succ])
            rfl
          refine pure_ (i := 7) (N := some 95) (v := ?_) (a' := ?_) #[true, true, false, true, false, false, true, true, false, false, false, false, false] rfl rfl (by kernel_rfl) (fun _ _ _ h => h) (Or.inl ⟨by rfl, ?_⟩) ?_ ?_
          rotate_left
          · intro w'
            go_simp
            with_reducible rfl
          rotate_left
          · (simp only [Act.put, List.setIfInBounds_toArray, i64_w, i32_w]; dsimp only [List.set_cons_zero, List.set_cons_succ])
            rfl
          refine pure_ (i := 9) (N := some 97) (v := ?_) (a' := ?_) #[true, true, false, true, false, false, true, true, false, true, false, false, false] rfl rfl (by kernel_rfl) (fun _ _ _ h => h) (Or.inl ⟨by rfl, ?_⟩) ?_ ?_
          rotate_left
          · intro w'
            go_simp
            with_reducible rfl
          rotate_left
          · (simp only [Act.put, List.setIfInBounds_toArray, i64_w, i32_w]; dsimp only [List.set_cons_zero, List.set_cons_succ])
            rfl
          refine take_ (i := 2) (N := some 90) (v := ?_) (a' := ?_) #[true, true, true, true, false, false, true, true, false, true, false, false, false] rfl rfl (by kernel_rfl) (fun _ _ _ h => h) (Or.inl ⟨by rfl, ?_⟩) hHeld ?_ ?_
          rotate_left
          · rintro w' ⟨s0, s1⟩
            go_simp
            with_reducible rfl
          rotate_left
          · (simp only [Act.put, List.setIfInBounds_toArray, i64_w, i32_w]; dsimp only [List.set_cons_zero, List.set_cons_succ])
            rfl
          refine take_ (i := 4) (N := some 92) (v := ?_) (a' := ?_) #[true, true, true, true, true, false, true, true, false, true, false, false, false] rfl rfl (by kernel_rfl) (fun _ _ _ h => h) (Or.inl ⟨by rfl, ?_⟩) hHeld ?_ ?_
          rotate_left
          · rintro w' ⟨s0, s1⟩
            go_simp
            with_reducible rfl
          rotate_left
          · (simp only [Act.put, List.setIfInBounds_toArray, i64_w, i32_w]; dsimp only [List.set_cons_zero, List.set_cons_succ])
            rfl
          refine take_ (i := 8) (N := some 96) (v := ?_) (a' := ?_) #[true, true, true, true, true, false, true, true, true, true, false, false, false] rfl rfl (by kernel_rfl) (fun _ _ _ h => h) (Or.inl ⟨by rfl, ?_⟩) hHeld ?_ ?_
          rotate_left
          · rintro w' ⟨s0, s1⟩
            go_simp
            with_reducible rfl
          rotate_left
          · (simp only [Act.put, List.setIfInBounds_toArray, i64_w, i32_w]; dsimp only [List.set_cons_zero, List.set_cons_succ])
            rfl
          refine take_ (i := 10) (N := some 98) (v := ?_) (a' := ?_) #[true, true, true, true, true, false, true, true, true, true, true, false, false] rfl rfl (by kernel_rfl) (fun _ _ _ h => h) (Or.inl ⟨by rfl, ?_⟩) hHeld ?_ ?_
          rotate_left
          · rintro w' ⟨s0, s1⟩
            go_simp
            with_reducible rfl
          rotate_left
          · (simp only [Act.put, List.setIfInBounds_toArray, i64_w, i32_w]; dsimp only [List.set_cons_zero, List.set_cons_succ])
            rfl
          refine one_ (i := 5) (N := some 93) #[true, true, true, true, true, true, true, true, true, true, true, false, false] rfl rfl (by kernel_rfl) (by decide) (fun K hK => ?_)
          refine goes_ Try.func27 (by kernel_rfl) rfl #[.pointer (some ⟨b, 0, none⟩), .int .i64 g, .int .i64 id] (by rfl) rfl rfl (by simp only [List.map_toArray, List.map_cons, List.map_nil]; rfl) ?_
          with_reducible refine (HGV.out).mono ?_
          rintro e w4 ⟨rfl, S4, h4, e4, g4⟩
          refine ⟨_, rfl, ?_⟩
          have hB4 := (HBx.out.drew).keep e4 HBS.out
          have hR4 := (HWR2.out.keep0 (Ext.refl [] w3).drew).keep e4 (fun x hx hs => HDO.out.ne x hs hx)
          refine hK.out _ _ ⟨(hB4.cell 1), (hB4.cell 2)⟩ (fun hHeld => ?_)
          clear hK K
          refine norm_ (a' := ?_) ?_ ?_
          rotate_left
          · show Act.put _ (some 93) _ = _
            (simp only [Act.put, List.setIfInBounds_toArray, i64_w, i32_w]; dsimp only [List.set_cons_zero, List.set_cons_succ])
            rfl
          refine one_ (i := 11) (N := some 99) #[true, true, true, true, true, true, true, true, true, true, true, true, false] rfl rfl (by kernel_rfl) (by decide) (fun K hK => ?_)
          refine goes_ Try.func34 (by kernel_rfl) rfl #[.pointer (some ⟨r, 0, none⟩), .int .i64 g, .int .i64 id] (by rfl) rfl rfl (by simp only [List.map_toArray, List.map_cons, List.map_nil]; rfl) ?_
          with_reducible refine (HGR.out _ hR4).mono ?_
          rintro e w5 ⟨rfl, R5, h5, e5, g5⟩
          refine ⟨_, rfl, ?_⟩
          have hB5 := hB4.keep e5 HBR.out
          refine hK.out _ _ ⟨(hB5.cell 1), (hB5.cell 2)⟩ (fun hHeld => ?_)
          clear hK K
          refine norm_ (a' := ?_) ?_ ?_
          rotate_left
          · show Act.put _ (some 99) _ = _
            (simp only [Act.put, List.setIfInBounds_toArray, i64_w, i32_w]; dsimp only [List.set_cons_zero, List.set_cons_succ])
            rfl
          refine pure_ (i := 12) (N := some 100) (v := ?_) (a' := ?_) #[true, true, true, true, true, true, true, true, true, true, true, true, true] rfl rfl (by kernel_rfl) (fun _ _ _ h => h) (Or.inl ⟨by rfl, ?_⟩) ?_ ?_
          rotate_left
          · intro w'
            go_simp
            with_reducible rfl
          rotate_left
          · (simp only [Act.put, List.setIfInBounds_toArray, i64_w, i32_w]; dsimp only [List.set_cons_zero, List.set_cons_succ])
            rfl
          refine done_ (by kernel_rfl) ?_
          go_wp2_with fail
          go_meet
          have o4 := HDO.out.left (HWR2.out.keep0 (Ext.refl [] w3).drew).lt e4 g4
          exact ⟨rfl, hB5, S4, R5, M', h4.keep e5 (fun x hx hr => o4.ne x hx hr), h5, o4.right h4.lt e5 g5, HNI.out, own_ne hSS.out g4 HBx.out.lt, own_ne hRR.out g5 hB4.lt⟩
          refine start_ (n := 13) (S := fun w' => w'.cell? ⟨B, 1, none⟩ = some (.int .i64 g) ∧ w'.cell? ⟨B, 2, none⟩ = some (.int .i64 id)) (ds := []) #[false, false, false, false, false, false, false, false, false, false, false, false, false] (by kernel_rfl) rfl rfl ⟨k1, k2⟩ (fun hHeld => ?_)
          refine pure_ (i := 0) (N := some 88) (v := ?_) (a' := ?_) #[true, false, false, false, false, false, false, false, false, false, false, false, false] rfl rfl (by kernel_rfl) (fun _ _ _ h => h) (Or.inl ⟨by rfl, ?_⟩) ?_ ?_
          rotate_left
          · intro w'
            go_simp
            with_reducible rfl
          rotate_left
          · (simp only [Act.put, List.setIfInBounds_toArray, i64_w, i32_w]; dsimp only [List.set_cons_zero, List.set_cons_succ])
            rfl
          refine pure_ (i := 1) (N := some 89) (v := ?_) (a' := ?_) #[true, true, false, false, false, false, false, false, false, false, false, false, false] rfl rfl (by kernel_rfl) (fun _ _ _ h => h) (Or.inl ⟨by rfl, ?_⟩) ?_ ?_
          rotate_left
          · intro w'
            go_simp
            with_reducible rfl
          rotate_left
          · (simp only [Act.put, List.setIfInBounds_toArray, i64_w, i32_w]; dsimp only [List.set_cons_zero, List.set_cons_succ])
            rfl
          refine pure_ (i := 3) (N := some 91) (v := ?_) (a' := ?_) #[true, true, false, true, false, false, false, false, false, false, false, false, false] rfl rfl (by kernel_rfl) (fun _ _ _ h => h) (Or.inl ⟨by rfl, ?_⟩) ?_ ?_
          rotate_left
          · intro w'
            go_simp
            with_reducible rfl
          rotate_left
          · (simp only [Act.put, List.setIfInBounds_toArray, i64_w, i32_w]; dsimp only [List.set_cons_zero, List.set_cons_succ])
            rfl
          refine pure_ (i := 6) (N := some 94) (v := ?_) (a' := ?_) #[true, true, false, true, false, false, true, false, false, false, false, false, false] rfl rfl (by kernel_rfl) (fun _ _ _ h => h) (Or.inl ⟨by rfl, ?_⟩) ?_ ?_
          rotate_left
          · intro w'
            go_simp
            with_reducible rfl
          rotate_left
          · (simp only [Act.put, List.setIfInBounds_toArray, i64_w, i32_w]; dsimp only [List.set_cons_zero, List.set_cons_succ])
            rfl
          refine pure_ (i := 7) (N := some 95) (v := ?_) (a' := ?_) #[true, true, false, true, false, false, true, true, false, false, false, false, false] rfl rfl (by kernel_rfl) (fun _ _ _ h => h) (Or.inl ⟨by rfl, ?_⟩) ?_ ?_
          rotate_left
          · intro w'
            go_simp
            with_reducible rfl
          rotate_left
          · (simp only [Act.put, List.setIfInBounds_toArray, i64_w, i32_w]; dsimp only [List.set_cons_zero, List.set_cons_succ])
            rfl
          refine pure_ (i := 9) (N := some 97) (v := ?_) (a' := ?_) #[true, true, false, true, false, false, true, true, false, true, false, false, false] rfl rfl (by kernel_rfl) (fun _ _ _ h => h) (Or.inl ⟨by rfl, ?_⟩) ?_ ?_
          rotate_left
          · intro w'
            go_simp
            with_reducible rfl
          rotate_left
          · (simp only [Act.put, List.setIfInBounds_toArray, i64_w, i32_w]; dsimp only [List.set_cons_zero, List.set_cons_succ])
            rfl
          refine take_ (i := 2) (N := some 90) (v := ?_) (a' := ?_) #[true, true, true, true, false, false, true, true, false, true, false, false, false] rfl rfl (by kernel_rfl) (fun _ _ _ h => h) (Or.inl ⟨by rfl, ?_⟩) hHeld ?_ ?_
          rotate_left
          · rintro w' ⟨s0, s1⟩
            go_simp
            with_reducible rfl
          rotate_left
          · (simp only [Act.put, List.setIfInBounds_toArray, i64_w, i32_w]; dsimp only [List.set_cons_zero, List.set_cons_succ])
            rfl
          refine take_ (i := 4) (N := some 92) (v := ?_) (a' := ?_) #[true, true, true, true, true, false, true, true, false, true, false, false, false] rfl rfl (by kernel_rfl) (fun _ _ _ h => h) (Or.inl ⟨by rfl, ?_⟩) hHeld ?_ ?_
          rotate_left
          · rintro w' ⟨s0, s1⟩
            go_simp
            with_reducible rfl
          rotate_left
          · (simp only [Act.put, List.setIfInBounds_toArray, i64_w, i32_w]; dsimp only [List.set_cons_zero, List.set_cons_succ])
            rfl
          refine take_ (i := 8) (N := some 96) (v := ?_) (a' := ?_) #[true, true, true, true, true, false, true, true, true, true, false, false, false] rfl rfl (by kernel_rfl) (fun _ _ _ h => h) (Or.inl ⟨by rfl, ?_⟩) hHeld ?_ ?_
          rotate_left
          · rintro w' ⟨s0, s1⟩
            go_simp
            with_reducible rfl
          rotate_left
          · (simp only [Act.put, List.setIfInBounds_toArray, i64_w, i32_w]; dsimp only [List.set_cons_zero, List.set_cons_succ])
            rfl
          refine take_ (i := 10) (N := some 98) (v := ?_) (a' := ?_) #[true, true, true, true, true, false, true, true, true, true, true, false, false] rfl rfl (by kernel_rfl) (fun _ _ _ h => h) (Or.inl ⟨by rfl, ?_⟩) hHeld ?_ ?_
          rotate_left
          · rintro w' ⟨s0, s1⟩
            go_simp
            with_reducible rfl
          rotate_left
          · (simp only [Act.put, List.setIfInBounds_toArray, i64_w, i32_w]; dsimp only [List.set_cons_zero, List.set_cons_succ])
            rfl
          refine one_ (i := 5) (N := some 93) #[true, true, true, true, true, true, true, true, true, true, true, false, false] rfl rfl (by kernel_rfl) (by decide) (fun K hK => ?_)
          refine goes_ Try.func27 (by kernel_rfl) rfl #[.pointer (some ⟨b, 0, none⟩), .int .i64 g, .int .i64 id] (by rfl) rfl rfl (by simp only [List.map_toArray, List.map_cons, List.map_nil]; rfl) ?_
          with_reducible refine (HGV.out).mono ?_
          rintro e w4 ⟨rfl, S4, h4, e4, g4⟩
          refine ⟨_, rfl, ?_⟩
          have hB4 := (HBx.out.drew).keep e4 HBS.out
          have hR4 := (HWR2.out.keep0 (Ext.refl [] w3).drew).keep e4 (fun x hx hs => HDO.out.ne x hs hx)
          refine hK.out _ _ ⟨(hB4.cell 1), (hB4.cell 2)⟩ (fun hHeld => ?_)
          clear hK K
          refine norm_ (a' := ?_) ?_ ?_
          rotate_left
          · show Act.put _ (some 93) _ = _
            (simp only [Act.put, List.setIfInBounds_toArray, i64_w, i32_w]; dsimp only [List.set_cons_zero, List.set_cons_succ])
            rfl
          refine one_ (i := 11) (N := some 99) #[true, true, true, true, true, true, true, true, true, true, true, true, false] rfl rfl (by kernel_rfl) (by decide) (fun K hK => ?_)
          refine goes_ Try.func34 (by kernel_rfl) rfl #[.pointer (some ⟨r, 0, none⟩), .int .i64 g, .int .i64 id] (by rfl) rfl rfl (by simp only [List.map_toArray, List.map_cons, List.map_nil]; rfl) ?_
          with_reducible refine (HGR.out _ hR4).mono ?_
          rintro e w5 ⟨rfl, R5, h5, e5, g5⟩
          refine ⟨_, rfl, ?_⟩
          have hB5 := hB4.keep e5 HBR.out
          refine hK.out _ _ ⟨(hB5.cell 1), (hB5.cell 2)⟩ (fun hHeld => ?_)
          clear hK K
          refine norm_ (a' := ?_) ?_ ?_
          rotate_left
          · show Act.put _ (some 99) _ = _
            (simp only [Act.put, List.setIfInBounds_toArray, i64_w, i32_w]; dsimp only [List.set_cons_zero, List.set_cons_succ])
            rfl
          refine pure_ (i := 12) (N := some 100) (v := ?_) (a' := ?_) #[true, true, true, true, true, true, true, true, true, true, true, true, true] rfl rfl (by kernel_rfl) (fun _ _ _ h => h) (Or.inl ⟨by rfl, ?_⟩) ?_ ?_
          rotate_left
          · intro w'
            go_simp
            with_reducible rfl
          rotate_left
          · (simp only [Act.put, List.setIfInBounds_toArray, i64_w, i32_w]; dsimp only [List.set_cons_zero, List.set_cons_succ])
            rfl
          refine done_ (by kernel_rfl) ?_
          go_wp2_with fail
          go_meet
          have o4 := HDO.out.left (HWR2.out.keep0 (Ext.refl [] w3).drew).lt e4 g4
          exact ⟨rfl, hB5, S4, R5, M', h4.keep e5 (fun x hx hr => o4.ne x hx hr), h5, o4.right h4.lt e5 g5, HNI.out, own_ne hSS.out g4 HBx.out.lt, own_ne hRR.out g5 hB4.lt⟩
        · clear hlv5
          have hgv := gs_leave b S M id HM4.out HOK.out hso w3 HW2.out
          have hgr := fun W (hW : GQ W r R M) => rg_leave r R M id HM4.out HOK.out hso W hW
          have hni := hinv.out.leave id
          unfold LeaveP at hgv
          unfold LeaveQ at hgr
          generalize leaveG M id = q at hgv hgr hni
          obtain ⟨⟨ja, jb⟩, M'⟩ := q
          simp only at hgv hgr hni
          have k2 : w3.cell? ⟨B, 2, none⟩ = some (.int .i64 id) := HBx.out.cell 2
          have HGV := Lib.hid hgv; have HGR := Lib.hid hgr; have HNI := Lib.hid hni
          clear hgv hgr hni hso
          go_wp2_with fail
          refine HGV.out.mono ?_
          rintro e w4 ⟨rfl, S4, h4, e4, g4⟩
          have hB4 := HBx.out.keep e4 HBS.out
          have hR4 := HWR2.out.keep e4 (fun x hx hs => HOW2.out.ne x hs hx)
          clear k2
          have k2 : w4.cell? ⟨B, 2, none⟩ = some (.int .i64 id) := hB4.cell 2
          have HB4 := Lib.hid hB4; have HR4 := Lib.hid hR4; have H4 := Lib.hid h4; have HE4 := Lib.hid e4; have HG4 := Lib.hid g4
          clear hB4 hR4 h4 e4 g4 HGV
          go_wp2_with fail
          refine (HGR.out _ HR4.out).mono ?_
          rintro e w5 ⟨rfl, R5, h5, e5, g5⟩
          have hB5 := HB4.out.keep e5 HBR.out
          have H5 := Lib.hid h5; have HB5 := Lib.hid hB5; have HE5 := Lib.hid e5; have HG5 := Lib.hid g5
          clear k2 h5 hB5 e5 g5 HGR
          go_wp2_with fail
          go_meet
          have o4 := HOW2.out.left HWR2.out.lt HE4.out HG4.out
          exact ⟨rfl, HB5.out, S4, R5, M', H4.out.keep HE5.out (fun x hx hr => o4.ne x hx hr), H5.out, o4.right H4.out.lt HE5.out HG5.out, HNI.out, own_ne hSS.out HG4.out HBx.out.lt, own_ne hRR.out HG5.out HB4.out.lt⟩
        · clear hlv5
          have hgv := gs_tear b S M g HM4.out w3 HW2.out
          have hgr := fun W (hW : GQ W r R M) => rg_tear r R M g HM4.out W hW
          have hni := hinv.out.tear g
          have hdl := tearG_len hinv.out g
          unfold TearP at hgv
          unfold TearQ at hgr
          generalize tearG M g = q at hgv hgr hni hdl
          obtain ⟨⟨dl, jb⟩, M'⟩ := q
          simp only at hgv hgr hni hdl
          have hdl6 : dl.length < 1000000 := Nat.lt_of_le_of_lt hdl (Nat.lt_trans P2.out (by decide))
          have hti := fun W v v' (h : RI W v dl) (h' : RI W v' dl) => ints_any v v' dl dl hdl6 hdl6 W h h'
          have hdk : decide (dl = dl) = true := decide_eq_true rfl
          rw [hdk] at hti
          have k1 : w3.cell? ⟨B, 1, none⟩ = some (.int .i64 g) := HBx.out.cell 1
          have HGV := Lib.hid hgv; have HGR := Lib.hid hgr; have HNI := Lib.hid hni; have HTI := Lib.hid hti
          clear hgv hgr hni hso hdl hdl6 hti hdk
          go_wp2_with fail
          refine HGV.out.mono ?_
          rintro e w4 ⟨da, dc, rfl, dr, df, S4, ⟨h4, hn4⟩, e4, g4⟩
          have hB4 := HBx.out.keep e4 HBS.out
          have hR4 := HWR2.out.keep e4 (fun x hx hs => HOW2.out.ne x hs hx)
          clear k1
          have k1 : w4.cell? ⟨B, 1, none⟩ = some (.int .i64 g) := hB4.cell 1
          have HB4 := Lib.hid hB4; have HR4 := Lib.hid hR4; have H4 := Lib.hid h4; have HE4 := Lib.hid e4; have HG4 := Lib.hid g4; have HDR := Lib.hid dr; have HDF := Lib.hid df
          clear hB4 hR4 h4 e4 g4 HGV hn4 dr df
          go_wp2_with fail
          refine (HGR.out _ HR4.out).mono ?_
          rintro e w5 ⟨ra, rc, rfl, rr, rf, R5, ⟨h5, hn5⟩, e5, g5⟩
          have hB5 := HB4.out.keep e5 HBR.out
          have dr5 := HDR.out.keep e5 (fun q hq hm => HOW2.out.ne q (HDF.out q hq) hm)
          have H5 := Lib.hid h5; have HB5 := Lib.hid hB5; have HE5 := Lib.hid e5; have HG5 := Lib.hid g5; have HD5 := Lib.hid dr5; have HR5 := Lib.hid rr
          clear k1 h5 hB5 e5 g5 HGR hn5 dr5 rr rf HDR HDF
          go_wp2_with fail
          refine (HTI.out _ _ _ HD5.out HR5.out).mono ?_
          rintro e w6 ⟨rfl, e6⟩
          have HE6 := Lib.hid e6
          clear e6 HD5 HR5 HTI
          go_wp2_with fail
          go_meet
          have o4 := HOW2.out.left HWR2.out.lt HE4.out HG4.out
          have o5 := (o4.right H4.out.lt HE5.out HG5.out).quiet HE6.out
          exact ⟨rfl, HB5.out.keep HE6.out (by simp), S4, R5, M', (H4.out.keep HE5.out (fun x hx hr => o4.ne x hx hr)).keep0 HE6.out, H5.out.keep0 HE6.out, o5, HNI.out, own_ne hSS.out HG4.out HBx.out.lt, own_ne hRR.out HG5.out HB4.out.lt⟩
      case rest =>
        obtain ⟨rfl, hBc, S', R', M', hw', hwr', ow', hinv', hSB', hRB'⟩ := hcut
        have hl4 : M'.length < 10000 := by have := hinv'.len; omega
        have hl6 : M'.length < 1000000 := by have := hinv'.len; omega
        have hok := PInv.ok hinv' (by have := P2.out; omega)
        have a1 := fun W (hW : Ext [] wc W) => gs_of b S' M' id hl4 hok W (hw'.keep0 hW)
        have a2 := fun W (hW : Ext [] wc W) => rg_of r R' M' id hl4 hok W (hwr'.keep0 hW)
        have a3 := fun W (hW : Ext [] wc W) => gs_of b S' M' ask hl4 hok W (hw'.keep0 hW)
        have a4 := fun W (hW : Ext [] wc W) => rg_of r R' M' ask hl4 hok W (hwr'.keep0 hW)
        have a5 := fun W (hW : Ext [] wc W) => gs_members b S' M' g hl4 hok W (hw'.keep0 hW)
        have a6 := fun W (hW : Ext [] wc W) => rg_members r R' M' g hl4 hok W (hwr'.keep0 hW)
        have a7 := fun W (hW : Ext [] wc W) => gs_members b S' M' ask hl4 hok W (hw'.keep0 hW)
        have a8 := fun W (hW : Ext [] wc W) => rg_members r R' M' ask hl4 hok W (hwr'.keep0 hW)
        have a9 := fun W (hW : Ext [] wc W) => gs_live b S' M' g hl6 W (hw'.keep0 hW)
        have a10 := fun W (hW : Ext [] wc W) => rg_live r R' M' g hl6 W (hwr'.keep0 hW)
        have a11 := fun W (hW : Ext [] wc W) => gs_live b S' M' ask hl6 W (hw'.keep0 hW)
        have a12 := fun W (hW : Ext [] wc W) => rg_live r R' M' ask hl6 W (hwr'.keep0 hW)
        have l1 : (memG M' g).length < 1000000 := by have := memG_len hinv' g; have := P2.out; omega
        have l2 : (memG M' ask).length < 1000000 := by have := memG_len hinv' ask; have := P2.out; omega
        have kf1 : Hid (∀ W, Ext [] wc W → W.cell? ⟨B, 1, none⟩ = some (.int .i64 g)) := fun W hW => (hBc.keep hW (by simp)).cell 1
        have kf2 : Hid (∀ W, Ext [] wc W → W.cell? ⟨B, 2, none⟩ = some (.int .i64 id)) := fun W hW => (hBc.keep hW (by simp)).cell 2
        have HWc := Lib.hid hw'; have HWRc := Lib.hid hwr'; have HOWc := Lib.hid ow'; have HINV := Lib.hid hinv'
        go_wp2_with fail
        refine groupPlays_r29 wc b r B ask g id (ofG M' id) (ofG M' ask) (liveG M' g) (liveG M' ask) (memG M' g) (memG M' ask) a1 a2 a3 a4 a5 a6 a7 a8 a9 a10 a11 a12 l1 l2 kf1 kf2 _ (fun _ _ _ _ _ h => h) ?_
        clear a1 a2 a3 a4 a5 a6 a7 a8 a9 a10 a11 a12 l1 l2 kf1 kf2 hw' hwr' ow' hinv' hBc hSB' hRB' hl4 hl6 hok HBx HW2 HWR2 HOW2 hSS hRR hinv hlv5
        intro v125 v126 v127 v128 v129 v130 v131 v132 v133 v134 v135 v136 v137 v138 v139 v140 v141 v142 v143 v144 v145 v146 v147 v148 v149 v150 v151 v152 v153 v154 v155 v156 v157 v158 v159 v160 v161 v162 v163 v164 v165 v166 v167 v168 v169 v170 v171 v172 v173 v174 v175 v176 v177 v178 v179 v180 v181 v182 v183 w29 e29
        have f9 := F9.out
        go_wp2_with fail
        exact ⟨⟨i + 1, S', R', M', P1.out, by go_num, HWc.out.keep0 e29, HWRc.out.keep0 e29, HOWc.out.quiet e29, HINV.out⟩, by first | exact measD P1.out | (rw [f9]; exact measD P1.out)⟩
    · have d1 : decide (i < ln) = false := decide_eq_false hi
      have HOW := Lib.hid ow
      clear hw hwr ow hinv
      go_wp2_with fail
      refine (awakeG_any _).mono ?_
      rintro e w2 ⟨rfl, e2⟩
      go_wp2_with fail
      go_ret
      exact ⟨rfl, HOW.out.ext.trans e2 (by simp)⟩
end Go.Proofs.Ytlagogjnoibkcaa
